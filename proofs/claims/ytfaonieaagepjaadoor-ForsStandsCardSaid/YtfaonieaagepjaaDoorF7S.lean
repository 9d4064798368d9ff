/- Layer 17: the answers that the document fixes, walked. Conditions: the tables. -/
import Derived.Test.YtfaonieaagepjaaDoorF7R
import Derived.Test.YtfaonieaagepjaaDoorA4K
namespace Go.Proofs.YtfaonieaagepjaaDoor
open Go.RowKit
set_option linter.unusedVariables false
set_option linter.unusedSimpArgs false
theorem words_to (w : World) (A A' : Option Addr) (l m : List Int) (n n' c c' : Nat) (b : Bool) (hA : Rd w w.heap.size .u32 A l) (hB : Rd w w.heap.size .u32 A' m) (hn : l.length = n) (hn' : m.length = n') (hm : n' ≤ 9223372036854775807) (hb : decide (l = m) = b) :
    Calls Tryd.prog 22 #[.slice A n c, .slice A' n' c'] w fun e w' => e = .returned (.bool b) ∧ Below w.heap.size w w' := by
  subst hn hn' hb
  refine (words_same w A A' l m c c' _ _ hA hB hm).mono ?_
  rintro e w' ⟨rfl, q, rfl⟩
  exact ⟨rfl, bdr (Below.refl _ _) q⟩
def f0 : Fw := ⟨16, 1, 1, 2, 3⟩
theorem f0_ok : f0.ok := ⟨⟨by decide, by decide⟩, ⟨by decide, by decide⟩, ⟨by decide, by decide⟩, ⟨by decide, by decide⟩, ⟨by decide, by decide⟩⟩
theorem f0_may : f0.may := ⟨.inl rfl, ⟨by decide, by decide⟩, ⟨by decide, by decide⟩, by decide, ⟨by decide, by decide⟩, ⟨by decide, by decide⟩⟩
theorem f0_made : f0.made 16 16 16 := ⟨f0_may, by decide, by decide, rfl, rfl, rfl⟩
theorem u64_1 : U64 1 := ⟨by decide, by decide⟩
theorem w32_2 : W32 2 := ⟨by decide, by decide⟩
def z16 : List Int := List.replicate 16 0
theorem z16_len : z16.length = 16 := rfl
theorem z16_B : Bys z16 := Bys.rep 16 ⟨by decide, by decide⟩
theorem f0_sz : Szd f0.n z16 := ⟨.inl rfl, rfl⟩
theorem d180 : digsL [180] 3 2 = [5, 5] := by decide +kernel
theorem b180 : Bys [180] := fun x hx => by simp at hx; subst hx; exact ⟨by decide, by decide⟩
theorem t0_len : (tellS 16 z16 z16 1 2 [180] 3 2).length = 128 := tellS_len (N := 16) f0_sz _ _ _ _ _ _
theorem t0_B : Bys (tellS 16 z16 z16 1 2 [180] 3 2) := tellS_B _ _ _ _ _ _ _ _
theorem t0_st : standsL 16 z16 1 2 (tellS 16 z16 z16 1 2 [180] 3 2) [180] 16 3 2 = wholeL 16 z16 z16 1 2 3 2 := stands_whole (N := 16) f0_sz z16 1 2 [180] 3 2 (by decide) (by decide)
set_option maxRecDepth 100000 in
set_option maxHeartbeats 4000000 in
theorem awake17_any (w : World) (hT : KTab w) : Calls Tryd.prog 12 #[] w fun e w' => e = .returned (.bool true) ∧ Below w.heap.size w w' := by
  have hmx : (200000000 : Nat) ≤ maxLen := by decide
  have hZ := Blk.new w 23 #[.int .i64 0, .int .i64 0, .int .i64 0, .int .i64 0, .int .i64 0]
  go_enter Tryd.func12, Tryd.ntmps12
  go_upto_region 2 with (first | (refine wpList_val_yes (o := ⟨some 5, _, _, _, _, _⟩) (.agg f0.cs) (by rfl) (by kernel_rfl) ?_) | (refine wpList_store_row (o := ⟨none, _, _, _, _, _⟩) rfl 23 _ _ rfl _ f0.cs rfl (by kernel_rfl) _ #[.int .i64 0, .int .i64 0, .int .i64 0, .int .i64 0, .int .i64 0] hZ (by kernel_rfl) rfl (by kernel_rfl) ?_))
  have hpk := ((Kept.refl w.heap.size (fun _ => False) w).alloc (.cells #[.int .i64 0, .int .i64 0, .int .i64 0, .int .i64 0, .int .i64 0] 23) (Nat.le_refl _)).setRow w.heap.size f0.cs (.inl (Nat.le_refl _))
  have hpf := hZ.setRow f0.cs
  change Code.wp _ _ _ _ ((w.alloc (.cells #[.int .i64 0, .int .i64 0, .int .i64 0, .int .i64 0, .int .i64 0] 23)).setRow w.heap.size f0.cs)
  have hK := hpk.below
  generalize (w.alloc (.cells #[.int .i64 0, .int .i64 0, .int .i64 0, .int .i64 0, .int .i64 0] 23)).setRow w.heap.size f0.cs = w0 at hpk hpf hK ⊢
  have hlf := hpf.lt
  clear hpk hZ
  obtain ⟨gz, hgz⟩ : ∃ g, w0.heap.size = g := ⟨_, rfl⟩
  go_upto_region 3 with (refine wpList_make_nums rfl _ _ 24 rfl 5 .u8 1 Tryd.underlying24 inf_u8 .i64 .i64 16 16 16 16 rfl rfl rfl rfl (by decide) (by decide) (by decide) ?_; intro w1 hw1)
  have hRz : Rd w1 w1.heap.size .u8 (some ⟨w0.heap.size, 0, none⟩) z16 := by rw [hw1.out]; exact Rd.of_arr (Arr.new w0 5 .u8 z16) (by simp)
  have hK1 : Below w.heap.size w w1 := by rw [hw1.out]; exact bal hK hK.size _
  have hpf1 : Blk w1 w.heap.size 23 f0.cs := by rw [hw1.out]; exact hpf.alloc _
  have hlf1 := hpf1.lt
  rw [hgz] at hRz
  clear hw1 hK hpf hlf hgz
  have hZ2 := Blk.new w1 39 #[.slice none 0 0, .slice none 0 0, .slice none 0 0]
  go_upto_region 4 with (first | (refine wpList_val_yes (o := ⟨some 10, _, _, _, _, _⟩) (.agg #[.slice (some ⟨gz, 0, none⟩) 16 16, .slice (some ⟨gz, 0, none⟩) 16 16, .slice (some ⟨gz, 0, none⟩) 16 16]) (by rfl) (by kernel_rfl) ?_) | (refine wpList_store_row (o := ⟨none, _, _, _, _, _⟩) rfl 39 _ _ rfl _ #[.slice (some ⟨gz, 0, none⟩) 16 16, .slice (some ⟨gz, 0, none⟩) 16 16, .slice (some ⟨gz, 0, none⟩) 16 16] rfl (by kernel_rfl) _ #[.slice none 0 0, .slice none 0 0, .slice none 0 0] hZ2 (by kernel_rfl) rfl (by kernel_rfl) ?_))
  have hpk := ((Kept.refl w1.heap.size (fun _ => False) w1).alloc (.cells #[.slice none 0 0, .slice none 0 0, .slice none 0 0] 39) (Nat.le_refl _)).setRow w1.heap.size #[.slice (some ⟨gz, 0, none⟩) 16 16, .slice (some ⟨gz, 0, none⟩) 16 16, .slice (some ⟨gz, 0, none⟩) 16 16] (.inl (Nat.le_refl _))
  have hpm := hZ2.setRow #[.slice (some ⟨gz, 0, none⟩) 16 16, .slice (some ⟨gz, 0, none⟩) 16 16, .slice (some ⟨gz, 0, none⟩) 16 16]
  change Code.wp _ _ _ _ ((w1.alloc (.cells #[.slice none 0 0, .slice none 0 0, .slice none 0 0] 39)).setRow w1.heap.size #[.slice (some ⟨gz, 0, none⟩) 16 16, .slice (some ⟨gz, 0, none⟩) 16 16, .slice (some ⟨gz, 0, none⟩) 16 16])
  have hbq := hpk.below
  obtain ⟨bm, hbm⟩ : ∃ b, w1.heap.size = b := ⟨_, rfl⟩
  generalize (w1.alloc (.cells #[.slice none 0 0, .slice none 0 0, .slice none 0 0] 39)).setRow w1.heap.size #[.slice (some ⟨gz, 0, none⟩) 16 16, .slice (some ⟨gz, 0, none⟩) 16 16, .slice (some ⟨gz, 0, none⟩) 16 16] = w2 at hpk hpm hbq ⊢
  have hK2 := bnx hK1 hbq hK1.size
  have hpf2 := hpf1.below hbq hlf1
  have hlf2 := hpf2.lt
  rw [hbm] at hpm ⊢
  have hlm2 := hpm.lt
  have hRz2 := hRz.bel hbq
  have hBz2 := Below.refl w2.heap.size w2
  clear hpk hZ2 hK1 hpf1 hlf1 hRz hbq hbm
  go_wp2_with (first | (refine wpList_blk_yes (t := 23) (T := 23) (by rfl) rfl rfl Tryd.underlying23 rfl (by kernel_rfl) hpf2 ?_) | (refine wpList_blk_yes (t := 39) (T := 39) (by rfl) rfl rfl Tryd.underlying39 rfl (by kernel_rfl) hpm ?_))
  have hz3 : (w2.alloc (.cells (U .u8 [180]) 5)).heap.size = w2.heap.size + 1 := by simp
  have hRx : Rd (w2.alloc (.cells (U .u8 [180]) 5)) (w2.alloc (.cells (U .u8 [180]) 5)).heap.size .u8 (some ⟨w2.heap.size, 0, none⟩) [180] := (Rd.marked6 w2 5 .u8 [180] (0, 0)).more (by simp)
  have hK3 := bal hK2 hK2.size (.cells (U .u8 [180]) 5)
  have hBz_3 := bal hBz2 hBz2.size (.cells (U .u8 [180]) 5)
  have hcf_3 := hpf2.alloc (.cells (U .u8 [180]) 5)
  have hlf_3 := Nat.lt_of_lt_of_le hlf2 (al_le w2 (.cells (U .u8 [180]) 5))
  have hcm_3 := hpm.alloc (.cells (U .u8 [180]) 5)
  have hlm_3 := Nat.lt_of_lt_of_le hlm2 (al_le w2 (.cells (U .u8 [180]) 5))
  have hBx_3 := Below.refl (w2.alloc (.cells (U .u8 [180]) 5)).heap.size (w2.alloc (.cells (U .u8 [180]) 5))
  obtain ⟨v3, hv3⟩ : ∃ v, w2.alloc (.cells (U .u8 [180]) 5) = v := ⟨_, rfl⟩
  rw [hv3] at hK3 hBz_3 hcf_3 hlf_3 hcm_3 hlm_3 hRx hBx_3 hz3
  clear hK2 hBz2 hpf2 hlf2 hpm hlm2
  change Calls _ _ _ (w2.alloc (.cells (U .u8 [180]) 5)) _
  rw [hv3]
  clear hv3
  (with_reducible refine (tell_any f0 2 3 rfl rfl f0_ok z16 z16 [180] (some ⟨gz, 0, none⟩) (some ⟨gz, 0, none⟩) (some ⟨gz, 0, none⟩) (some ⟨w2.heap.size, 0, none⟩) 16 16 16 16 16 16 1 1 1 2 v3 u64_1 w32_2 f0_made (hRz2.bel hBz_3) rfl (by decide) z16_B (hRz2.bel hBz_3) rfl (by decide) z16_B (hRx.bel hBx_3) rfl (by decide) (by decide) b180 (by decide) (hT.bel hK3)).mono ?_)
  rintro e v4 ⟨At, ct, rfl, hF4, hh4, hb4⟩
  have hK4 := bnx hK3 hb4 hK3.size
  have hBz_4 := bnx hBz_3 hb4 hBz_3.size
  have hBx_4 := bnx hBx_3 hb4 hBx_3.size
  have hcf_4 := hcf_3.below hb4 hlf_3
  have hlf_4 := Nat.lt_of_lt_of_le hlf_3 hb4.size
  have hcm_4 := hcm_3.below hb4 hlm_3
  have hlm_4 := Nat.lt_of_lt_of_le hlm_3 hb4.size
  have hct : 128 ≤ ct := hh4
  have hRt := hF4
  have hBt_4 := Below.refl v4.heap.size v4
  clear hK3 hBz_3 hBx_3 hcf_3 hlf_3 hcm_3 hlm_3 hb4 hF4 hh4
  change Rd _ _ _ _ (tellS 16 z16 z16 1 2 [180] 3 2) at hRt
  clear hRx
  go_upto_region 5 with fail
  refine Lx.enter (fun w' => Blk w' w.heap.size 23 f0.cs ∧ Blk w' bm 39 #[.slice (some ⟨gz, 0, none⟩) 16 16, .slice (some ⟨gz, 0, none⟩) 16 16, .slice (some ⟨gz, 0, none⟩) 16 16]) 37 (by kernel_rfl) (by kernel_rfl) ⟨hcf_4.drew, hcm_4.drew⟩ ?_
  refine Lx.val 0 (.agg f0.cs) rfl (by kernel_rfl) (by kernel_rfl) (by kernel_rfl) (fun _ _ _ h => h) (by kernel_rfl) (fun w hw => exec_load_row w rfl (by kernel_rfl) Tryd.underlying23 rfl (by kernel_rfl) hw.1) ?_; (try simp (config := {maxSteps := 2000000}) only [Act.put, List.getElem_toArray, List.getElem_cons_succ, List.getElem_cons_zero, List.setIfInBounds_toArray, List.set_cons_zero, List.set_cons_succ])
  have hK5 := bdw hK4
  have hBz_5 := bdw hBz_4
  have hBt_5 := bdw hBt_4
  have hcf_5 := hcf_4.drew
  have hlf_5 := (show _ < v4.drew.heap.size from hlf_4)
  have hcm_5 := hcm_4.drew
  have hlm_5 := (show _ < v4.drew.heap.size from hlm_4)
  generalize v4.drew = v5 at hK5 hBz_5 hBt_5 hcf_5 hlf_5 hcm_5 hlm_5 ⊢
  clear hK4 hBz_4 hBt_4 hcf_4 hlf_4 hcm_4 hlm_4
  refine Lx.call 1 rfl (by kernel_rfl) (by kernel_rfl) (by kernel_rfl) (fun _ => (may_yes f0 v5 f0_ok f0_may).mono ?_)
  rintro e v6 ⟨rfl, hb6⟩
  have hK6 := bnx hK5 hb6 hK5.size
  have hBz_6 := bnx hBz_5 hb6 hBz_5.size
  have hBt_6 := bnx hBt_5 hb6 hBt_5.size
  have hcf_6 := hcf_5.below hb6 hlf_5
  have hlf_6 := Nat.lt_of_lt_of_le hlf_5 hb6.size
  have hcm_6 := hcm_5.below hb6 hlm_5
  have hlm_6 := Nat.lt_of_lt_of_le hlm_5 hb6.size
  refine ⟨_, rfl, ⟨hcf_6, hcm_6⟩, ?_⟩
  (try simp (config := {maxSteps := 2000000}) only [Act.put, List.getElem_toArray, List.getElem_cons_succ, List.getElem_cons_zero, List.setIfInBounds_toArray, List.set_cons_zero, List.set_cons_succ])
  clear hK5 hBz_5 hBt_5 hcf_5 hlf_5 hcm_5 hlm_5 hb6
  (refine Lx.val 2 ?_ rfl (by kernel_rfl) (by kernel_rfl) (by kernel_rfl) (fun _ _ _ h => h) (by kernel_rfl) ?_ ?_; rotate_left 1; focus (intro w hw; go_simp; with_reducible rfl)); (try simp (config := {maxSteps := 2000000}) only [Act.put, List.getElem_toArray, List.getElem_cons_succ, List.getElem_cons_zero, List.setIfInBounds_toArray, List.set_cons_zero, List.set_cons_succ])
  refine Lx.val 3 (.agg f0.cs) rfl (by kernel_rfl) (by kernel_rfl) (by kernel_rfl) (fun _ _ _ h => h) (by kernel_rfl) (fun w hw => exec_load_row w rfl (by kernel_rfl) Tryd.underlying23 rfl (by kernel_rfl) hw.1) ?_; (try simp (config := {maxSteps := 2000000}) only [Act.put, List.getElem_toArray, List.getElem_cons_succ, List.getElem_cons_zero, List.setIfInBounds_toArray, List.set_cons_zero, List.set_cons_succ])
  refine Lx.val 4 (.agg #[.slice (some ⟨gz, 0, none⟩) 16 16, .slice (some ⟨gz, 0, none⟩) 16 16, .slice (some ⟨gz, 0, none⟩) 16 16]) rfl (by kernel_rfl) (by kernel_rfl) (by kernel_rfl) (fun _ _ _ h => h) (by kernel_rfl) (fun w hw => exec_load_row w rfl (by kernel_rfl) Tryd.underlying39 rfl (by kernel_rfl) hw.2) ?_; (try simp (config := {maxSteps := 2000000}) only [Act.put, List.getElem_toArray, List.getElem_cons_succ, List.getElem_cons_zero, List.setIfInBounds_toArray, List.set_cons_zero, List.set_cons_succ])
  refine Lx.call 5 rfl (by kernel_rfl) (by kernel_rfl) (by kernel_rfl) (fun _ => (made_yes f0 (some ⟨gz, 0, none⟩) (some ⟨gz, 0, none⟩) (some ⟨gz, 0, none⟩) 16 16 16 16 16 16 v6 f0_ok f0_made).mono ?_)
  rintro e v7 ⟨rfl, hb7⟩
  have hK7 := bnx hK6 hb7 hK6.size
  have hBz_7 := bnx hBz_6 hb7 hBz_6.size
  have hBt_7 := bnx hBt_6 hb7 hBt_6.size
  have hcf_7 := hcf_6.below hb7 hlf_6
  have hlf_7 := Nat.lt_of_lt_of_le hlf_6 hb7.size
  have hcm_7 := hcm_6.below hb7 hlm_6
  have hlm_7 := Nat.lt_of_lt_of_le hlm_6 hb7.size
  refine ⟨_, rfl, ⟨hcf_7, hcm_7⟩, ?_⟩
  (try simp (config := {maxSteps := 2000000}) only [Act.put, List.getElem_toArray, List.getElem_cons_succ, List.getElem_cons_zero, List.setIfInBounds_toArray, List.set_cons_zero, List.set_cons_succ])
  clear hK6 hBz_6 hBt_6 hcf_6 hlf_6 hcm_6 hlm_6 hb7
  (refine Lx.val 6 ?_ rfl (by kernel_rfl) (by kernel_rfl) (by kernel_rfl) (fun _ _ _ h => h) (by kernel_rfl) ?_ ?_; rotate_left 1; focus (intro w hw; go_simp; with_reducible rfl)); (try simp (config := {maxSteps := 2000000}) only [Act.put, List.getElem_toArray, List.getElem_cons_succ, List.getElem_cons_zero, List.setIfInBounds_toArray, List.set_cons_zero, List.set_cons_succ])
  (refine Lx.val 7 ?_ rfl (by kernel_rfl) (by kernel_rfl) (by kernel_rfl) (fun _ _ _ h => h) (by kernel_rfl) ?_ ?_; rotate_left 1; focus (intro w hw; go_simp; with_reducible rfl)); (try simp (config := {maxSteps := 2000000}) only [Act.put, List.getElem_toArray, List.getElem_cons_succ, List.getElem_cons_zero, List.setIfInBounds_toArray, List.set_cons_zero, List.set_cons_succ])
  refine Lx.val 8 (.agg f0.cs) rfl (by kernel_rfl) (by kernel_rfl) (by kernel_rfl) (fun _ _ _ h => h) (by kernel_rfl) (fun w hw => exec_load_row w rfl (by kernel_rfl) Tryd.underlying23 rfl (by kernel_rfl) hw.1) ?_; (try simp (config := {maxSteps := 2000000}) only [Act.put, List.getElem_toArray, List.getElem_cons_succ, List.getElem_cons_zero, List.setIfInBounds_toArray, List.set_cons_zero, List.set_cons_succ])
  refine Lx.two 9 11 (by kernel_rfl) ?_ ?_
  · have hRp := (Rd.marked6 v7 5 .u8 [180] (0, 0)).more (B' := (v7.alloc (.cells (U .u8 [180]) 5)).heap.size) (by simp)
    have hz8 : (v7.alloc (.cells (U .u8 [180]) 5)).heap.size = v7.heap.size + 1 := by simp
    have hK8 := bal hK7 hK7.size (.cells (U .u8 [180]) 5)
    have hBz_8 := bal hBz_7 hBz_7.size (.cells (U .u8 [180]) 5)
    have hBt_8 := bal hBt_7 hBt_7.size (.cells (U .u8 [180]) 5)
    have hcf_8 := hcf_7.alloc (.cells (U .u8 [180]) 5)
    have hlf_8 := Nat.lt_of_lt_of_le hlf_7 (al_le v7 (.cells (U .u8 [180]) 5))
    have hcm_8 := hcm_7.alloc (.cells (U .u8 [180]) 5)
    have hlm_8 := Nat.lt_of_lt_of_le hlm_7 (al_le v7 (.cells (U .u8 [180]) 5))
    refine LxOp.made (w' := v7.alloc (.cells (U .u8 [180]) 5)) 9 (.slice (some ⟨v7.heap.size, 0, none⟩) 1 1) rfl (by kernel_rfl) (by kernel_rfl) (fun _ => ⟨hcf_8, hcm_8⟩) ?_
    (try simp (config := {maxSteps := 2000000}) only [Act.put, List.getElem_toArray, List.getElem_cons_succ, List.getElem_cons_zero, List.setIfInBounds_toArray, List.set_cons_zero, List.set_cons_succ])
    generalize v7.alloc (.cells (U .u8 [180]) 5) = v8 at hK8 hBz_8 hBt_8 hcf_8 hlf_8 hcm_8 hlm_8 hz8 hRp ⊢
    clear hK7 hBz_7 hBt_7 hcf_7 hlf_7 hcm_7 hlm_7
    have hRp : Rd v8 v8.heap.size .u8 (some ⟨v7.heap.size, 0, none⟩) [180] := hRp
    have hBp_8 := Below.refl v8.heap.size v8
    refine Lx.two 10 11 (by kernel_rfl) ?_ ?_
    · refine LxOp.call 10 rfl (by kernel_rfl) (by kernel_rfl) (fun _ => (digits_any f0 2 3 rfl rfl [180] (some ⟨v7.heap.size, 0, none⟩) 1 1 v8 f0_ok f0_may (hRp.bel hBp_8) rfl (by decide) (by decide) (by decide) b180).mono ?_)
      rintro e v9 ⟨Ad, cd, rfl, hF9, hh9, hb9⟩
      have hK9 := bnx hK8 hb9 hK8.size
      have hBz_9 := bnx hBz_8 hb9 hBz_8.size
      have hBt_9 := bnx hBt_8 hb9 hBt_8.size
      have hBp_9 := bnx hBp_8 hb9 hBp_8.size
      have hcf_9 := hcf_8.below hb9 hlf_8
      have hlf_9 := Nat.lt_of_lt_of_le hlf_8 hb9.size
      have hcm_9 := hcm_8.below hb9 hlm_8
      have hlm_9 := Nat.lt_of_lt_of_le hlm_8 hb9.size
      refine ⟨_, rfl, ⟨hcf_9, hcm_9⟩, ?_⟩
      (try simp (config := {maxSteps := 2000000}) only [Act.put, List.getElem_toArray, List.getElem_cons_succ, List.getElem_cons_zero, List.setIfInBounds_toArray, List.set_cons_zero, List.set_cons_succ])
      have hRd := hF9
      have hBd_9 := Below.refl v9.heap.size v9
      clear hK8 hBz_8 hBt_8 hBp_8 hcf_8 hlf_8 hcm_8 hlm_8 hb9 hF9 hh9
      have hRv := (Rd.marked6 v9 26 .u32 [5, 5] (0, 0)).more (B' := (v9.alloc (.cells (U .u32 [5, 5]) 26)).heap.size) (by simp)
      have hz10 : (v9.alloc (.cells (U .u32 [5, 5]) 26)).heap.size = v9.heap.size + 1 := by simp
      have hK10 := bal hK9 hK9.size (.cells (U .u32 [5, 5]) 26)
      have hBz_10 := bal hBz_9 hBz_9.size (.cells (U .u32 [5, 5]) 26)
      have hBt_10 := bal hBt_9 hBt_9.size (.cells (U .u32 [5, 5]) 26)
      have hBp_10 := bal hBp_9 hBp_9.size (.cells (U .u32 [5, 5]) 26)
      have hBd_10 := bal hBd_9 hBd_9.size (.cells (U .u32 [5, 5]) 26)
      have hcf_10 := hcf_9.alloc (.cells (U .u32 [5, 5]) 26)
      have hlf_10 := Nat.lt_of_lt_of_le hlf_9 (al_le v9 (.cells (U .u32 [5, 5]) 26))
      have hcm_10 := hcm_9.alloc (.cells (U .u32 [5, 5]) 26)
      have hlm_10 := Nat.lt_of_lt_of_le hlm_9 (al_le v9 (.cells (U .u32 [5, 5]) 26))
      refine Lx.made (w' := v9.alloc (.cells (U .u32 [5, 5]) 26)) 11 (.slice (some ⟨v9.heap.size, 0, none⟩) 2 2) rfl (by kernel_rfl) (by kernel_rfl) (by kernel_rfl) (fun _ => ⟨hcf_10, hcm_10⟩) ?_
      (try simp (config := {maxSteps := 2000000}) only [Act.put, List.getElem_toArray, List.getElem_cons_succ, List.getElem_cons_zero, List.setIfInBounds_toArray, List.set_cons_zero, List.set_cons_succ])
      generalize v9.alloc (.cells (U .u32 [5, 5]) 26) = v10 at hK10 hBz_10 hBt_10 hBp_10 hBd_10 hcf_10 hlf_10 hcm_10 hlm_10 hz10 hRv ⊢
      clear hK9 hBz_9 hBt_9 hBp_9 hBd_9 hcf_9 hlf_9 hcm_9 hlm_9
      have hRv : Rd v10 v10.heap.size .u32 (some ⟨v9.heap.size, 0, none⟩) [5, 5] := hRv
      have hBv_10 := Below.refl v10.heap.size v10
      refine Lx.call 12 rfl (by kernel_rfl) (by kernel_rfl) (by kernel_rfl) (fun _ => (words_to v10 Ad (some ⟨v9.heap.size, 0, none⟩) (digsL [180] 3 2) [5, 5] 2 2 cd 2 true (hRd.bel hBd_10) (hRv.bel hBv_10) rfl rfl (by decide) (decide_eq_true d180)).mono ?_)
      rintro e v11 ⟨rfl, hb11⟩
      have hK11 := bnx hK10 hb11 hK10.size
      have hBz_11 := bnx hBz_10 hb11 hBz_10.size
      have hBt_11 := bnx hBt_10 hb11 hBt_10.size
      have hBp_11 := bnx hBp_10 hb11 hBp_10.size
      have hBd_11 := bnx hBd_10 hb11 hBd_10.size
      have hBv_11 := bnx hBv_10 hb11 hBv_10.size
      have hcf_11 := hcf_10.below hb11 hlf_10
      have hlf_11 := Nat.lt_of_lt_of_le hlf_10 hb11.size
      have hcm_11 := hcm_10.below hb11 hlm_10
      have hlm_11 := Nat.lt_of_lt_of_le hlm_10 hb11.size
      refine ⟨_, rfl, ⟨hcf_11, hcm_11⟩, ?_⟩
      (try simp (config := {maxSteps := 2000000}) only [Act.put, List.getElem_toArray, List.getElem_cons_succ, List.getElem_cons_zero, List.setIfInBounds_toArray, List.set_cons_zero, List.set_cons_succ])
      clear hK10 hBz_10 hBt_10 hBp_10 hBd_10 hBv_10 hcf_10 hlf_10 hcm_10 hlm_10 hb11
      (refine Lx.val 13 ?_ rfl (by kernel_rfl) (by kernel_rfl) (by kernel_rfl) (fun _ _ _ h => h) (by kernel_rfl) ?_ ?_; rotate_left 1; focus (intro w hw; go_simp; with_reducible rfl)); (try simp (config := {maxSteps := 2000000}) only [Act.put, List.getElem_toArray, List.getElem_cons_succ, List.getElem_cons_zero, List.setIfInBounds_toArray, List.set_cons_zero, List.set_cons_succ])
      (refine Lx.val 14 ?_ rfl (by kernel_rfl) (by kernel_rfl) (by kernel_rfl) (fun _ _ _ h => h) (by kernel_rfl) ?_ ?_; rotate_left 1; focus (intro w hw; go_simp; with_reducible rfl)); (try simp (config := {maxSteps := 2000000}) only [Act.put, List.getElem_toArray, List.getElem_cons_succ, List.getElem_cons_zero, List.setIfInBounds_toArray, List.set_cons_zero, List.set_cons_succ])
      (refine Lx.val 15 ?_ rfl (by kernel_rfl) (by kernel_rfl) (by kernel_rfl) (fun _ _ _ h => h) (by kernel_rfl) ?_ ?_; rotate_left 1; focus (intro w hw; go_simp; with_reducible rfl)); (try simp (config := {maxSteps := 2000000}) only [Act.put, List.getElem_toArray, List.getElem_cons_succ, List.getElem_cons_zero, List.setIfInBounds_toArray, List.set_cons_zero, List.set_cons_succ])
      (refine Lx.val 16 ?_ rfl (by kernel_rfl) (by kernel_rfl) (by kernel_rfl) (fun _ _ _ h => h) (by kernel_rfl) ?_ ?_; rotate_left 1; focus (intro w hw; go_simp; with_reducible rfl)); (try simp (config := {maxSteps := 2000000}) only [Act.put, List.getElem_toArray, List.getElem_cons_succ, List.getElem_cons_zero, List.setIfInBounds_toArray, List.set_cons_zero, List.set_cons_succ])
      (refine Lx.val 17 ?_ rfl (by kernel_rfl) (by kernel_rfl) (by kernel_rfl) (fun _ _ _ h => h) (by kernel_rfl) ?_ ?_; rotate_left 1; focus (intro w hw; go_simp; with_reducible rfl)); (try simp (config := {maxSteps := 2000000}) only [Act.put, List.getElem_toArray, List.getElem_cons_succ, List.getElem_cons_zero, List.setIfInBounds_toArray, List.set_cons_zero, List.set_cons_succ])
      (refine Lx.val 18 ?_ rfl (by kernel_rfl) (by kernel_rfl) (by kernel_rfl) (fun _ _ _ h => h) (by kernel_rfl) ?_ ?_; rotate_left 1; focus (intro w hw; go_simp; with_reducible rfl)); (try simp (config := {maxSteps := 2000000}) only [Act.put, List.getElem_toArray, List.getElem_cons_succ, List.getElem_cons_zero, List.setIfInBounds_toArray, List.set_cons_zero, List.set_cons_succ])
      (refine Lx.val 19 ?_ rfl (by kernel_rfl) (by kernel_rfl) (by kernel_rfl) (fun _ _ _ h => h) (by kernel_rfl) ?_ ?_; rotate_left 1; focus (intro w hw; go_simp; with_reducible rfl)); (try simp (config := {maxSteps := 2000000}) only [Act.put, List.getElem_toArray, List.getElem_cons_succ, List.getElem_cons_zero, List.setIfInBounds_toArray, List.set_cons_zero, List.set_cons_succ])
      refine Lx.val 20 (.agg f0.cs) rfl (by kernel_rfl) (by kernel_rfl) (by kernel_rfl) (fun _ _ _ h => h) (by kernel_rfl) (fun w hw => exec_load_row w rfl (by kernel_rfl) Tryd.underlying23 rfl (by kernel_rfl) hw.1) ?_; (try simp (config := {maxSteps := 2000000}) only [Act.put, List.getElem_toArray, List.getElem_cons_succ, List.getElem_cons_zero, List.setIfInBounds_toArray, List.set_cons_zero, List.set_cons_succ])
      (refine Lx.val 21 ?_ rfl (by kernel_rfl) (by kernel_rfl) (by kernel_rfl) (fun _ _ _ h => h) (by kernel_rfl) ?_ ?_; rotate_left 1; focus (intro w hw; go_simp; with_reducible rfl)); (try simp (config := {maxSteps := 2000000}) only [Act.put, List.getElem_toArray, List.getElem_cons_succ, List.getElem_cons_zero, List.setIfInBounds_toArray, List.set_cons_zero, List.set_cons_succ])
      (refine Lx.val 23 ?_ rfl (by kernel_rfl) (by kernel_rfl) (by kernel_rfl) (fun _ _ _ h => h) (by kernel_rfl) ?_ ?_; rotate_left 1; focus (intro w hw; go_simp; with_reducible rfl)); (try simp (config := {maxSteps := 2000000}) only [Act.put, List.getElem_toArray, List.getElem_cons_succ, List.getElem_cons_zero, List.setIfInBounds_toArray, List.set_cons_zero, List.set_cons_succ])
      refine Lx.val 25 (.agg f0.cs) rfl (by kernel_rfl) (by kernel_rfl) (by kernel_rfl) (fun _ _ _ h => h) (by kernel_rfl) (fun w hw => exec_load_row w rfl (by kernel_rfl) Tryd.underlying23 rfl (by kernel_rfl) hw.1) ?_; (try simp (config := {maxSteps := 2000000}) only [Act.put, List.getElem_toArray, List.getElem_cons_succ, List.getElem_cons_zero, List.setIfInBounds_toArray, List.set_cons_zero, List.set_cons_succ])
      refine Lx.val 26 (.agg #[.slice (some ⟨gz, 0, none⟩) 16 16, .slice (some ⟨gz, 0, none⟩) 16 16, .slice (some ⟨gz, 0, none⟩) 16 16]) rfl (by kernel_rfl) (by kernel_rfl) (by kernel_rfl) (fun _ _ _ h => h) (by kernel_rfl) (fun w hw => exec_load_row w rfl (by kernel_rfl) Tryd.underlying39 rfl (by kernel_rfl) hw.2) ?_; (try simp (config := {maxSteps := 2000000}) only [Act.put, List.getElem_toArray, List.getElem_cons_succ, List.getElem_cons_zero, List.setIfInBounds_toArray, List.set_cons_zero, List.set_cons_succ])
      have hRu := (Rd.marked6 v11 5 .u8 [180] (0, 0)).more (B' := (v11.alloc (.cells (U .u8 [180]) 5)).heap.size) (by simp)
      have hz12 : (v11.alloc (.cells (U .u8 [180]) 5)).heap.size = v11.heap.size + 1 := by simp
      have hK12 := bal hK11 hK11.size (.cells (U .u8 [180]) 5)
      have hBz_12 := bal hBz_11 hBz_11.size (.cells (U .u8 [180]) 5)
      have hBt_12 := bal hBt_11 hBt_11.size (.cells (U .u8 [180]) 5)
      have hBp_12 := bal hBp_11 hBp_11.size (.cells (U .u8 [180]) 5)
      have hBd_12 := bal hBd_11 hBd_11.size (.cells (U .u8 [180]) 5)
      have hBv_12 := bal hBv_11 hBv_11.size (.cells (U .u8 [180]) 5)
      have hcf_12 := hcf_11.alloc (.cells (U .u8 [180]) 5)
      have hlf_12 := Nat.lt_of_lt_of_le hlf_11 (al_le v11 (.cells (U .u8 [180]) 5))
      have hcm_12 := hcm_11.alloc (.cells (U .u8 [180]) 5)
      have hlm_12 := Nat.lt_of_lt_of_le hlm_11 (al_le v11 (.cells (U .u8 [180]) 5))
      refine Lx.made (w' := v11.alloc (.cells (U .u8 [180]) 5)) 22 (.slice (some ⟨v11.heap.size, 0, none⟩) 1 1) rfl (by kernel_rfl) (by kernel_rfl) (by kernel_rfl) (fun _ => ⟨hcf_12, hcm_12⟩) ?_
      (try simp (config := {maxSteps := 2000000}) only [Act.put, List.getElem_toArray, List.getElem_cons_succ, List.getElem_cons_zero, List.setIfInBounds_toArray, List.set_cons_zero, List.set_cons_succ])
      generalize v11.alloc (.cells (U .u8 [180]) 5) = v12 at hK12 hBz_12 hBt_12 hBp_12 hBd_12 hBv_12 hcf_12 hlf_12 hcm_12 hlm_12 hz12 hRu ⊢
      clear hK11 hBz_11 hBt_11 hBp_11 hBd_11 hBv_11 hcf_11 hlf_11 hcm_11 hlm_11
      have hRu : Rd v12 v12.heap.size .u8 (some ⟨v11.heap.size, 0, none⟩) [180] := hRu
      have hBu_12 := Below.refl v12.heap.size v12
      refine Lx.call 24 rfl (by kernel_rfl) (by kernel_rfl) (by kernel_rfl) (fun _ => (stands_any f0 2 3 rfl rfl f0_ok (some ⟨gz, 0, none⟩) (some ⟨v11.heap.size, 0, none⟩) At 16 16 1 1 128 ct 1 2 v12 z16 (tellS 16 z16 z16 1 2 [180] 3 2) u64_1 w32_2 f0_may [180] (hRu.bel hBu_12) rfl (by decide) (by decide) b180 (by decide) f0_sz (hRz2.bel hBz_12) rfl (by decide) z16_B (hRt.bel hBt_12) t0_len hct t0_B (by decide) (hT.bel hK12)).mono ?_)
      rintro e v13 ⟨As, cs, rfl, hF13, hh13, hb13⟩
      have hK13 := bnx hK12 hb13 hK12.size
      have hBz_13 := bnx hBz_12 hb13 hBz_12.size
      have hBt_13 := bnx hBt_12 hb13 hBt_12.size
      have hBp_13 := bnx hBp_12 hb13 hBp_12.size
      have hBd_13 := bnx hBd_12 hb13 hBd_12.size
      have hBv_13 := bnx hBv_12 hb13 hBv_12.size
      have hBu_13 := bnx hBu_12 hb13 hBu_12.size
      have hcf_13 := hcf_12.below hb13 hlf_12
      have hlf_13 := Nat.lt_of_lt_of_le hlf_12 hb13.size
      have hcm_13 := hcm_12.below hb13 hlm_12
      have hlm_13 := Nat.lt_of_lt_of_le hlm_12 hb13.size
      refine ⟨_, rfl, ⟨hcf_13, hcm_13⟩, ?_⟩
      (try simp (config := {maxSteps := 2000000}) only [Act.put, List.getElem_toArray, List.getElem_cons_succ, List.getElem_cons_zero, List.setIfInBounds_toArray, List.set_cons_zero, List.set_cons_succ])
      have hRs := hF13
      have hBs_13 := Below.refl v13.heap.size v13
      clear hK12 hBz_12 hBt_12 hBp_12 hBd_12 hBv_12 hBu_12 hcf_12 hlf_12 hcm_12 hlm_12 hb13 hF13 hh13
      change Rd _ _ _ _ (standsL 16 z16 1 2 (tellS 16 z16 z16 1 2 [180] 3 2) [180] 16 3 2) at hRs
      rw [t0_st] at hRs
      refine Lx.call 27 rfl (by kernel_rfl) (by kernel_rfl) (by kernel_rfl) (fun _ => (rwhole_any f0 2 3 rfl rfl f0_ok z16 z16 (some ⟨gz, 0, none⟩) (some ⟨gz, 0, none⟩) (some ⟨gz, 0, none⟩) 16 16 16 16 16 16 1 2 v13 u64_1 w32_2 f0_made (hRz2.bel hBz_13) rfl (by decide) z16_B (hRz2.bel hBz_13) rfl (by decide) z16_B).mono ?_)
      rintro e v14 ⟨Aw, cw, rfl, hF14, hh14, hb14⟩
      have hK14 := bnx hK13 hb14 hK13.size
      have hBz_14 := bnx hBz_13 hb14 hBz_13.size
      have hBt_14 := bnx hBt_13 hb14 hBt_13.size
      have hBp_14 := bnx hBp_13 hb14 hBp_13.size
      have hBd_14 := bnx hBd_13 hb14 hBd_13.size
      have hBv_14 := bnx hBv_13 hb14 hBv_13.size
      have hBu_14 := bnx hBu_13 hb14 hBu_13.size
      have hBs_14 := bnx hBs_13 hb14 hBs_13.size
      have hcf_14 := hcf_13.below hb14 hlf_13
      have hlf_14 := Nat.lt_of_lt_of_le hlf_13 hb14.size
      have hcm_14 := hcm_13.below hb14 hlm_13
      have hlm_14 := Nat.lt_of_lt_of_le hlm_13 hb14.size
      refine ⟨_, rfl, ⟨hcf_14, hcm_14⟩, ?_⟩
      (try simp (config := {maxSteps := 2000000}) only [Act.put, List.getElem_toArray, List.getElem_cons_succ, List.getElem_cons_zero, List.setIfInBounds_toArray, List.set_cons_zero, List.set_cons_succ])
      have hRw := hF14
      have hBw_14 := Below.refl v14.heap.size v14
      clear hK13 hBz_13 hBt_13 hBp_13 hBd_13 hBv_13 hBu_13 hBs_13 hcf_13 hlf_13 hcm_13 hlm_13 hb14 hF14 hh14
      change Rd _ _ _ _ (wholeL 16 z16 z16 1 2 3 2) at hRw
      refine Lx.call 28 rfl (by kernel_rfl) (by kernel_rfl) (by kernel_rfl) (fun _ => (same_is_b v14 As Aw (wholeL 16 z16 z16 1 2 3 2) 16 cs cw (hRs.bel hBs_14) (hRw.bel hBw_14) (by unfold wholeL; exact atL_nd (N := 16) f0_sz _ _ _ _ _ _) (by decide)).mono ?_)
      rintro e v15 ⟨rfl, hb15⟩
      have hK15 := bnx hK14 hb15 hK14.size
      have hBz_15 := bnx hBz_14 hb15 hBz_14.size
      have hBt_15 := bnx hBt_14 hb15 hBt_14.size
      have hBp_15 := bnx hBp_14 hb15 hBp_14.size
      have hBd_15 := bnx hBd_14 hb15 hBd_14.size
      have hBv_15 := bnx hBv_14 hb15 hBv_14.size
      have hBu_15 := bnx hBu_14 hb15 hBu_14.size
      have hBs_15 := bnx hBs_14 hb15 hBs_14.size
      have hBw_15 := bnx hBw_14 hb15 hBw_14.size
      have hcf_15 := hcf_14.below hb15 hlf_14
      have hlf_15 := Nat.lt_of_lt_of_le hlf_14 hb15.size
      have hcm_15 := hcm_14.below hb15 hlm_14
      have hlm_15 := Nat.lt_of_lt_of_le hlm_14 hb15.size
      refine ⟨_, rfl, ⟨hcf_15, hcm_15⟩, ?_⟩
      (try simp (config := {maxSteps := 2000000}) only [Act.put, List.getElem_toArray, List.getElem_cons_succ, List.getElem_cons_zero, List.setIfInBounds_toArray, List.set_cons_zero, List.set_cons_succ])
      clear hK14 hBz_14 hBt_14 hBp_14 hBd_14 hBv_14 hBu_14 hBs_14 hBw_14 hcf_14 hlf_14 hcm_14 hlm_14 hb15
      (refine Lx.val 29 ?_ rfl (by kernel_rfl) (by kernel_rfl) (by kernel_rfl) (fun _ _ _ h => h) (by kernel_rfl) ?_ ?_; rotate_left 1; focus (intro w hw; go_simp; with_reducible rfl)); (try simp (config := {maxSteps := 2000000}) only [Act.put, List.getElem_toArray, List.getElem_cons_succ, List.getElem_cons_zero, List.setIfInBounds_toArray, List.set_cons_zero, List.set_cons_succ])
      (refine Lx.val 30 ?_ rfl (by kernel_rfl) (by kernel_rfl) (by kernel_rfl) (fun _ _ _ h => h) (by kernel_rfl) ?_ ?_; rotate_left 1; focus (intro w hw; go_simp; with_reducible rfl)); (try simp (config := {maxSteps := 2000000}) only [Act.put, List.getElem_toArray, List.getElem_cons_succ, List.getElem_cons_zero, List.setIfInBounds_toArray, List.set_cons_zero, List.set_cons_succ])
      refine Lx.val 31 (.agg f0.cs) rfl (by kernel_rfl) (by kernel_rfl) (by kernel_rfl) (fun _ _ _ h => h) (by kernel_rfl) (fun w hw => exec_load_row w rfl (by kernel_rfl) Tryd.underlying23 rfl (by kernel_rfl) hw.1) ?_; (try simp (config := {maxSteps := 2000000}) only [Act.put, List.getElem_toArray, List.getElem_cons_succ, List.getElem_cons_zero, List.setIfInBounds_toArray, List.set_cons_zero, List.set_cons_succ])
      refine Lx.call 32 rfl (by kernel_rfl) (by kernel_rfl) (by kernel_rfl) (fun _ => (digits_short f0 2 3 rfl rfl none 0 0 v15 f0_ok f0_may (by decide) (by decide)).mono ?_)
      rintro e v16 ⟨rfl, hb16⟩
      have hK16 := bnx hK15 hb16 hK15.size
      have hBz_16 := bnx hBz_15 hb16 hBz_15.size
      have hBt_16 := bnx hBt_15 hb16 hBt_15.size
      have hBp_16 := bnx hBp_15 hb16 hBp_15.size
      have hBd_16 := bnx hBd_15 hb16 hBd_15.size
      have hBv_16 := bnx hBv_15 hb16 hBv_15.size
      have hBu_16 := bnx hBu_15 hb16 hBu_15.size
      have hBs_16 := bnx hBs_15 hb16 hBs_15.size
      have hBw_16 := bnx hBw_15 hb16 hBw_15.size
      have hcf_16 := hcf_15.below hb16 hlf_15
      have hlf_16 := Nat.lt_of_lt_of_le hlf_15 hb16.size
      have hcm_16 := hcm_15.below hb16 hlm_15
      have hlm_16 := Nat.lt_of_lt_of_le hlm_15 hb16.size
      refine ⟨_, rfl, ⟨hcf_16, hcm_16⟩, ?_⟩
      (try simp (config := {maxSteps := 2000000}) only [Act.put, List.getElem_toArray, List.getElem_cons_succ, List.getElem_cons_zero, List.setIfInBounds_toArray, List.set_cons_zero, List.set_cons_succ])
      clear hK15 hBz_15 hBt_15 hBp_15 hBd_15 hBv_15 hBu_15 hBs_15 hBw_15 hcf_15 hlf_15 hcm_15 hlm_15 hb16
      (refine Lx.val 33 ?_ rfl (by kernel_rfl) (by kernel_rfl) (by kernel_rfl) (fun _ _ _ h => h) (by kernel_rfl) ?_ ?_; rotate_left 1; focus (intro w hw; go_simp; with_reducible rfl)); (try simp (config := {maxSteps := 2000000}) only [Act.put, List.getElem_toArray, List.getElem_cons_succ, List.getElem_cons_zero, List.setIfInBounds_toArray, List.set_cons_zero, List.set_cons_succ])
      (refine Lx.val 34 ?_ rfl (by kernel_rfl) (by kernel_rfl) (by kernel_rfl) (fun _ _ _ h => h) (by kernel_rfl) ?_ ?_; rotate_left 1; focus (intro w hw; go_simp; with_reducible rfl)); (try simp (config := {maxSteps := 2000000}) only [Act.put, List.getElem_toArray, List.getElem_cons_succ, List.getElem_cons_zero, List.setIfInBounds_toArray, List.set_cons_zero, List.set_cons_succ])
      (refine Lx.val 35 ?_ rfl (by kernel_rfl) (by kernel_rfl) (by kernel_rfl) (fun _ _ _ h => h) (by kernel_rfl) ?_ ?_; rotate_left 1; focus (intro w hw; go_simp; with_reducible rfl)); (try simp (config := {maxSteps := 2000000}) only [Act.put, List.getElem_toArray, List.getElem_cons_succ, List.getElem_cons_zero, List.setIfInBounds_toArray, List.set_cons_zero, List.set_cons_succ])
      (refine Lx.val 36 ?_ rfl (by kernel_rfl) (by kernel_rfl) (by kernel_rfl) (fun _ _ _ h => h) (by kernel_rfl) ?_ ?_; rotate_left 1; focus (intro w hw; go_simp; with_reducible rfl)); (try simp (config := {maxSteps := 2000000}) only [Act.put, List.getElem_toArray, List.getElem_cons_succ, List.getElem_cons_zero, List.setIfInBounds_toArray, List.set_cons_zero, List.set_cons_succ])
      refine Lx.done (by kernel_rfl) ?_
      intro _
      (try simp (config := {maxSteps := 2000000}) only [Act.put, List.getElem_toArray, List.getElem_cons_succ, List.getElem_cons_zero, List.setIfInBounds_toArray, List.set_cons_zero, List.set_cons_succ])
      go_wp2_with fail
      go_ret
      exact ⟨by kernel_rfl, hK16⟩
    · have hRv := (Rd.marked6 v8 26 .u32 [5, 5] (0, 0)).more (B' := (v8.alloc (.cells (U .u32 [5, 5]) 26)).heap.size) (by simp)
      have hz9 : (v8.alloc (.cells (U .u32 [5, 5]) 26)).heap.size = v8.heap.size + 1 := by simp
      have hK9 := bal hK8 hK8.size (.cells (U .u32 [5, 5]) 26)
      have hBz_9 := bal hBz_8 hBz_8.size (.cells (U .u32 [5, 5]) 26)
      have hBt_9 := bal hBt_8 hBt_8.size (.cells (U .u32 [5, 5]) 26)
      have hBp_9 := bal hBp_8 hBp_8.size (.cells (U .u32 [5, 5]) 26)
      have hcf_9 := hcf_8.alloc (.cells (U .u32 [5, 5]) 26)
      have hlf_9 := Nat.lt_of_lt_of_le hlf_8 (al_le v8 (.cells (U .u32 [5, 5]) 26))
      have hcm_9 := hcm_8.alloc (.cells (U .u32 [5, 5]) 26)
      have hlm_9 := Nat.lt_of_lt_of_le hlm_8 (al_le v8 (.cells (U .u32 [5, 5]) 26))
      refine LxOp.made (w' := v8.alloc (.cells (U .u32 [5, 5]) 26)) 11 (.slice (some ⟨v8.heap.size, 0, none⟩) 2 2) rfl (by kernel_rfl) (by kernel_rfl) (fun _ => ⟨hcf_9, hcm_9⟩) ?_
      (try simp (config := {maxSteps := 2000000}) only [Act.put, List.getElem_toArray, List.getElem_cons_succ, List.getElem_cons_zero, List.setIfInBounds_toArray, List.set_cons_zero, List.set_cons_succ])
      generalize v8.alloc (.cells (U .u32 [5, 5]) 26) = v9 at hK9 hBz_9 hBt_9 hBp_9 hcf_9 hlf_9 hcm_9 hlm_9 hz9 hRv ⊢
      clear hK8 hBz_8 hBt_8 hBp_8 hcf_8 hlf_8 hcm_8 hlm_8
      have hRv : Rd v9 v9.heap.size .u32 (some ⟨v8.heap.size, 0, none⟩) [5, 5] := hRv
      have hBv_9 := Below.refl v9.heap.size v9
      refine Lx.call 10 rfl (by kernel_rfl) (by kernel_rfl) (by kernel_rfl) (fun _ => (digits_any f0 2 3 rfl rfl [180] (some ⟨v7.heap.size, 0, none⟩) 1 1 v9 f0_ok f0_may (hRp.bel hBp_9) rfl (by decide) (by decide) (by decide) b180).mono ?_)
      rintro e v10 ⟨Ad, cd, rfl, hF10, hh10, hb10⟩
      have hK10 := bnx hK9 hb10 hK9.size
      have hBz_10 := bnx hBz_9 hb10 hBz_9.size
      have hBt_10 := bnx hBt_9 hb10 hBt_9.size
      have hBp_10 := bnx hBp_9 hb10 hBp_9.size
      have hBv_10 := bnx hBv_9 hb10 hBv_9.size
      have hcf_10 := hcf_9.below hb10 hlf_9
      have hlf_10 := Nat.lt_of_lt_of_le hlf_9 hb10.size
      have hcm_10 := hcm_9.below hb10 hlm_9
      have hlm_10 := Nat.lt_of_lt_of_le hlm_9 hb10.size
      refine ⟨_, rfl, ⟨hcf_10, hcm_10⟩, ?_⟩
      (try simp (config := {maxSteps := 2000000}) only [Act.put, List.getElem_toArray, List.getElem_cons_succ, List.getElem_cons_zero, List.setIfInBounds_toArray, List.set_cons_zero, List.set_cons_succ])
      have hRd := hF10
      have hBd_10 := Below.refl v10.heap.size v10
      clear hK9 hBz_9 hBt_9 hBp_9 hBv_9 hcf_9 hlf_9 hcm_9 hlm_9 hb10 hF10 hh10
      refine Lx.call 12 rfl (by kernel_rfl) (by kernel_rfl) (by kernel_rfl) (fun _ => (words_to v10 Ad (some ⟨v8.heap.size, 0, none⟩) (digsL [180] 3 2) [5, 5] 2 2 cd 2 true (hRd.bel hBd_10) (hRv.bel hBv_10) rfl rfl (by decide) (decide_eq_true d180)).mono ?_)
      rintro e v11 ⟨rfl, hb11⟩
      have hK11 := bnx hK10 hb11 hK10.size
      have hBz_11 := bnx hBz_10 hb11 hBz_10.size
      have hBt_11 := bnx hBt_10 hb11 hBt_10.size
      have hBp_11 := bnx hBp_10 hb11 hBp_10.size
      have hBv_11 := bnx hBv_10 hb11 hBv_10.size
      have hBd_11 := bnx hBd_10 hb11 hBd_10.size
      have hcf_11 := hcf_10.below hb11 hlf_10
      have hlf_11 := Nat.lt_of_lt_of_le hlf_10 hb11.size
      have hcm_11 := hcm_10.below hb11 hlm_10
      have hlm_11 := Nat.lt_of_lt_of_le hlm_10 hb11.size
      refine ⟨_, rfl, ⟨hcf_11, hcm_11⟩, ?_⟩
      (try simp (config := {maxSteps := 2000000}) only [Act.put, List.getElem_toArray, List.getElem_cons_succ, List.getElem_cons_zero, List.setIfInBounds_toArray, List.set_cons_zero, List.set_cons_succ])
      clear hK10 hBz_10 hBt_10 hBp_10 hBv_10 hBd_10 hcf_10 hlf_10 hcm_10 hlm_10 hb11
      (refine Lx.val 13 ?_ rfl (by kernel_rfl) (by kernel_rfl) (by kernel_rfl) (fun _ _ _ h => h) (by kernel_rfl) ?_ ?_; rotate_left 1; focus (intro w hw; go_simp; with_reducible rfl)); (try simp (config := {maxSteps := 2000000}) only [Act.put, List.getElem_toArray, List.getElem_cons_succ, List.getElem_cons_zero, List.setIfInBounds_toArray, List.set_cons_zero, List.set_cons_succ])
      (refine Lx.val 14 ?_ rfl (by kernel_rfl) (by kernel_rfl) (by kernel_rfl) (fun _ _ _ h => h) (by kernel_rfl) ?_ ?_; rotate_left 1; focus (intro w hw; go_simp; with_reducible rfl)); (try simp (config := {maxSteps := 2000000}) only [Act.put, List.getElem_toArray, List.getElem_cons_succ, List.getElem_cons_zero, List.setIfInBounds_toArray, List.set_cons_zero, List.set_cons_succ])
      (refine Lx.val 15 ?_ rfl (by kernel_rfl) (by kernel_rfl) (by kernel_rfl) (fun _ _ _ h => h) (by kernel_rfl) ?_ ?_; rotate_left 1; focus (intro w hw; go_simp; with_reducible rfl)); (try simp (config := {maxSteps := 2000000}) only [Act.put, List.getElem_toArray, List.getElem_cons_succ, List.getElem_cons_zero, List.setIfInBounds_toArray, List.set_cons_zero, List.set_cons_succ])
      (refine Lx.val 16 ?_ rfl (by kernel_rfl) (by kernel_rfl) (by kernel_rfl) (fun _ _ _ h => h) (by kernel_rfl) ?_ ?_; rotate_left 1; focus (intro w hw; go_simp; with_reducible rfl)); (try simp (config := {maxSteps := 2000000}) only [Act.put, List.getElem_toArray, List.getElem_cons_succ, List.getElem_cons_zero, List.setIfInBounds_toArray, List.set_cons_zero, List.set_cons_succ])
      (refine Lx.val 17 ?_ rfl (by kernel_rfl) (by kernel_rfl) (by kernel_rfl) (fun _ _ _ h => h) (by kernel_rfl) ?_ ?_; rotate_left 1; focus (intro w hw; go_simp; with_reducible rfl)); (try simp (config := {maxSteps := 2000000}) only [Act.put, List.getElem_toArray, List.getElem_cons_succ, List.getElem_cons_zero, List.setIfInBounds_toArray, List.set_cons_zero, List.set_cons_succ])
      (refine Lx.val 18 ?_ rfl (by kernel_rfl) (by kernel_rfl) (by kernel_rfl) (fun _ _ _ h => h) (by kernel_rfl) ?_ ?_; rotate_left 1; focus (intro w hw; go_simp; with_reducible rfl)); (try simp (config := {maxSteps := 2000000}) only [Act.put, List.getElem_toArray, List.getElem_cons_succ, List.getElem_cons_zero, List.setIfInBounds_toArray, List.set_cons_zero, List.set_cons_succ])
      (refine Lx.val 19 ?_ rfl (by kernel_rfl) (by kernel_rfl) (by kernel_rfl) (fun _ _ _ h => h) (by kernel_rfl) ?_ ?_; rotate_left 1; focus (intro w hw; go_simp; with_reducible rfl)); (try simp (config := {maxSteps := 2000000}) only [Act.put, List.getElem_toArray, List.getElem_cons_succ, List.getElem_cons_zero, List.setIfInBounds_toArray, List.set_cons_zero, List.set_cons_succ])
      refine Lx.val 20 (.agg f0.cs) rfl (by kernel_rfl) (by kernel_rfl) (by kernel_rfl) (fun _ _ _ h => h) (by kernel_rfl) (fun w hw => exec_load_row w rfl (by kernel_rfl) Tryd.underlying23 rfl (by kernel_rfl) hw.1) ?_; (try simp (config := {maxSteps := 2000000}) only [Act.put, List.getElem_toArray, List.getElem_cons_succ, List.getElem_cons_zero, List.setIfInBounds_toArray, List.set_cons_zero, List.set_cons_succ])
      (refine Lx.val 21 ?_ rfl (by kernel_rfl) (by kernel_rfl) (by kernel_rfl) (fun _ _ _ h => h) (by kernel_rfl) ?_ ?_; rotate_left 1; focus (intro w hw; go_simp; with_reducible rfl)); (try simp (config := {maxSteps := 2000000}) only [Act.put, List.getElem_toArray, List.getElem_cons_succ, List.getElem_cons_zero, List.setIfInBounds_toArray, List.set_cons_zero, List.set_cons_succ])
      (refine Lx.val 23 ?_ rfl (by kernel_rfl) (by kernel_rfl) (by kernel_rfl) (fun _ _ _ h => h) (by kernel_rfl) ?_ ?_; rotate_left 1; focus (intro w hw; go_simp; with_reducible rfl)); (try simp (config := {maxSteps := 2000000}) only [Act.put, List.getElem_toArray, List.getElem_cons_succ, List.getElem_cons_zero, List.setIfInBounds_toArray, List.set_cons_zero, List.set_cons_succ])
      refine Lx.val 25 (.agg f0.cs) rfl (by kernel_rfl) (by kernel_rfl) (by kernel_rfl) (fun _ _ _ h => h) (by kernel_rfl) (fun w hw => exec_load_row w rfl (by kernel_rfl) Tryd.underlying23 rfl (by kernel_rfl) hw.1) ?_; (try simp (config := {maxSteps := 2000000}) only [Act.put, List.getElem_toArray, List.getElem_cons_succ, List.getElem_cons_zero, List.setIfInBounds_toArray, List.set_cons_zero, List.set_cons_succ])
      refine Lx.val 26 (.agg #[.slice (some ⟨gz, 0, none⟩) 16 16, .slice (some ⟨gz, 0, none⟩) 16 16, .slice (some ⟨gz, 0, none⟩) 16 16]) rfl (by kernel_rfl) (by kernel_rfl) (by kernel_rfl) (fun _ _ _ h => h) (by kernel_rfl) (fun w hw => exec_load_row w rfl (by kernel_rfl) Tryd.underlying39 rfl (by kernel_rfl) hw.2) ?_; (try simp (config := {maxSteps := 2000000}) only [Act.put, List.getElem_toArray, List.getElem_cons_succ, List.getElem_cons_zero, List.setIfInBounds_toArray, List.set_cons_zero, List.set_cons_succ])
      have hRu := (Rd.marked6 v11 5 .u8 [180] (0, 0)).more (B' := (v11.alloc (.cells (U .u8 [180]) 5)).heap.size) (by simp)
      have hz12 : (v11.alloc (.cells (U .u8 [180]) 5)).heap.size = v11.heap.size + 1 := by simp
      have hK12 := bal hK11 hK11.size (.cells (U .u8 [180]) 5)
      have hBz_12 := bal hBz_11 hBz_11.size (.cells (U .u8 [180]) 5)
      have hBt_12 := bal hBt_11 hBt_11.size (.cells (U .u8 [180]) 5)
      have hBp_12 := bal hBp_11 hBp_11.size (.cells (U .u8 [180]) 5)
      have hBv_12 := bal hBv_11 hBv_11.size (.cells (U .u8 [180]) 5)
      have hBd_12 := bal hBd_11 hBd_11.size (.cells (U .u8 [180]) 5)
      have hcf_12 := hcf_11.alloc (.cells (U .u8 [180]) 5)
      have hlf_12 := Nat.lt_of_lt_of_le hlf_11 (al_le v11 (.cells (U .u8 [180]) 5))
      have hcm_12 := hcm_11.alloc (.cells (U .u8 [180]) 5)
      have hlm_12 := Nat.lt_of_lt_of_le hlm_11 (al_le v11 (.cells (U .u8 [180]) 5))
      refine Lx.made (w' := v11.alloc (.cells (U .u8 [180]) 5)) 22 (.slice (some ⟨v11.heap.size, 0, none⟩) 1 1) rfl (by kernel_rfl) (by kernel_rfl) (by kernel_rfl) (fun _ => ⟨hcf_12, hcm_12⟩) ?_
      (try simp (config := {maxSteps := 2000000}) only [Act.put, List.getElem_toArray, List.getElem_cons_succ, List.getElem_cons_zero, List.setIfInBounds_toArray, List.set_cons_zero, List.set_cons_succ])
      generalize v11.alloc (.cells (U .u8 [180]) 5) = v12 at hK12 hBz_12 hBt_12 hBp_12 hBv_12 hBd_12 hcf_12 hlf_12 hcm_12 hlm_12 hz12 hRu ⊢
      clear hK11 hBz_11 hBt_11 hBp_11 hBv_11 hBd_11 hcf_11 hlf_11 hcm_11 hlm_11
      have hRu : Rd v12 v12.heap.size .u8 (some ⟨v11.heap.size, 0, none⟩) [180] := hRu
      have hBu_12 := Below.refl v12.heap.size v12
      refine Lx.call 24 rfl (by kernel_rfl) (by kernel_rfl) (by kernel_rfl) (fun _ => (stands_any f0 2 3 rfl rfl f0_ok (some ⟨gz, 0, none⟩) (some ⟨v11.heap.size, 0, none⟩) At 16 16 1 1 128 ct 1 2 v12 z16 (tellS 16 z16 z16 1 2 [180] 3 2) u64_1 w32_2 f0_may [180] (hRu.bel hBu_12) rfl (by decide) (by decide) b180 (by decide) f0_sz (hRz2.bel hBz_12) rfl (by decide) z16_B (hRt.bel hBt_12) t0_len hct t0_B (by decide) (hT.bel hK12)).mono ?_)
      rintro e v13 ⟨As, cs, rfl, hF13, hh13, hb13⟩
      have hK13 := bnx hK12 hb13 hK12.size
      have hBz_13 := bnx hBz_12 hb13 hBz_12.size
      have hBt_13 := bnx hBt_12 hb13 hBt_12.size
      have hBp_13 := bnx hBp_12 hb13 hBp_12.size
      have hBv_13 := bnx hBv_12 hb13 hBv_12.size
      have hBd_13 := bnx hBd_12 hb13 hBd_12.size
      have hBu_13 := bnx hBu_12 hb13 hBu_12.size
      have hcf_13 := hcf_12.below hb13 hlf_12
      have hlf_13 := Nat.lt_of_lt_of_le hlf_12 hb13.size
      have hcm_13 := hcm_12.below hb13 hlm_12
      have hlm_13 := Nat.lt_of_lt_of_le hlm_12 hb13.size
      refine ⟨_, rfl, ⟨hcf_13, hcm_13⟩, ?_⟩
      (try simp (config := {maxSteps := 2000000}) only [Act.put, List.getElem_toArray, List.getElem_cons_succ, List.getElem_cons_zero, List.setIfInBounds_toArray, List.set_cons_zero, List.set_cons_succ])
      have hRs := hF13
      have hBs_13 := Below.refl v13.heap.size v13
      clear hK12 hBz_12 hBt_12 hBp_12 hBv_12 hBd_12 hBu_12 hcf_12 hlf_12 hcm_12 hlm_12 hb13 hF13 hh13
      change Rd _ _ _ _ (standsL 16 z16 1 2 (tellS 16 z16 z16 1 2 [180] 3 2) [180] 16 3 2) at hRs
      rw [t0_st] at hRs
      refine Lx.call 27 rfl (by kernel_rfl) (by kernel_rfl) (by kernel_rfl) (fun _ => (rwhole_any f0 2 3 rfl rfl f0_ok z16 z16 (some ⟨gz, 0, none⟩) (some ⟨gz, 0, none⟩) (some ⟨gz, 0, none⟩) 16 16 16 16 16 16 1 2 v13 u64_1 w32_2 f0_made (hRz2.bel hBz_13) rfl (by decide) z16_B (hRz2.bel hBz_13) rfl (by decide) z16_B).mono ?_)
      rintro e v14 ⟨Aw, cw, rfl, hF14, hh14, hb14⟩
      have hK14 := bnx hK13 hb14 hK13.size
      have hBz_14 := bnx hBz_13 hb14 hBz_13.size
      have hBt_14 := bnx hBt_13 hb14 hBt_13.size
      have hBp_14 := bnx hBp_13 hb14 hBp_13.size
      have hBv_14 := bnx hBv_13 hb14 hBv_13.size
      have hBd_14 := bnx hBd_13 hb14 hBd_13.size
      have hBu_14 := bnx hBu_13 hb14 hBu_13.size
      have hBs_14 := bnx hBs_13 hb14 hBs_13.size
      have hcf_14 := hcf_13.below hb14 hlf_13
      have hlf_14 := Nat.lt_of_lt_of_le hlf_13 hb14.size
      have hcm_14 := hcm_13.below hb14 hlm_13
      have hlm_14 := Nat.lt_of_lt_of_le hlm_13 hb14.size
      refine ⟨_, rfl, ⟨hcf_14, hcm_14⟩, ?_⟩
      (try simp (config := {maxSteps := 2000000}) only [Act.put, List.getElem_toArray, List.getElem_cons_succ, List.getElem_cons_zero, List.setIfInBounds_toArray, List.set_cons_zero, List.set_cons_succ])
      have hRw := hF14
      have hBw_14 := Below.refl v14.heap.size v14
      clear hK13 hBz_13 hBt_13 hBp_13 hBv_13 hBd_13 hBu_13 hBs_13 hcf_13 hlf_13 hcm_13 hlm_13 hb14 hF14 hh14
      change Rd _ _ _ _ (wholeL 16 z16 z16 1 2 3 2) at hRw
      refine Lx.call 28 rfl (by kernel_rfl) (by kernel_rfl) (by kernel_rfl) (fun _ => (same_is_b v14 As Aw (wholeL 16 z16 z16 1 2 3 2) 16 cs cw (hRs.bel hBs_14) (hRw.bel hBw_14) (by unfold wholeL; exact atL_nd (N := 16) f0_sz _ _ _ _ _ _) (by decide)).mono ?_)
      rintro e v15 ⟨rfl, hb15⟩
      have hK15 := bnx hK14 hb15 hK14.size
      have hBz_15 := bnx hBz_14 hb15 hBz_14.size
      have hBt_15 := bnx hBt_14 hb15 hBt_14.size
      have hBp_15 := bnx hBp_14 hb15 hBp_14.size
      have hBv_15 := bnx hBv_14 hb15 hBv_14.size
      have hBd_15 := bnx hBd_14 hb15 hBd_14.size
      have hBu_15 := bnx hBu_14 hb15 hBu_14.size
      have hBs_15 := bnx hBs_14 hb15 hBs_14.size
      have hBw_15 := bnx hBw_14 hb15 hBw_14.size
      have hcf_15 := hcf_14.below hb15 hlf_14
      have hlf_15 := Nat.lt_of_lt_of_le hlf_14 hb15.size
      have hcm_15 := hcm_14.below hb15 hlm_14
      have hlm_15 := Nat.lt_of_lt_of_le hlm_14 hb15.size
      refine ⟨_, rfl, ⟨hcf_15, hcm_15⟩, ?_⟩
      (try simp (config := {maxSteps := 2000000}) only [Act.put, List.getElem_toArray, List.getElem_cons_succ, List.getElem_cons_zero, List.setIfInBounds_toArray, List.set_cons_zero, List.set_cons_succ])
      clear hK14 hBz_14 hBt_14 hBp_14 hBv_14 hBd_14 hBu_14 hBs_14 hBw_14 hcf_14 hlf_14 hcm_14 hlm_14 hb15
      (refine Lx.val 29 ?_ rfl (by kernel_rfl) (by kernel_rfl) (by kernel_rfl) (fun _ _ _ h => h) (by kernel_rfl) ?_ ?_; rotate_left 1; focus (intro w hw; go_simp; with_reducible rfl)); (try simp (config := {maxSteps := 2000000}) only [Act.put, List.getElem_toArray, List.getElem_cons_succ, List.getElem_cons_zero, List.setIfInBounds_toArray, List.set_cons_zero, List.set_cons_succ])
      (refine Lx.val 30 ?_ rfl (by kernel_rfl) (by kernel_rfl) (by kernel_rfl) (fun _ _ _ h => h) (by kernel_rfl) ?_ ?_; rotate_left 1; focus (intro w hw; go_simp; with_reducible rfl)); (try simp (config := {maxSteps := 2000000}) only [Act.put, List.getElem_toArray, List.getElem_cons_succ, List.getElem_cons_zero, List.setIfInBounds_toArray, List.set_cons_zero, List.set_cons_succ])
      refine Lx.val 31 (.agg f0.cs) rfl (by kernel_rfl) (by kernel_rfl) (by kernel_rfl) (fun _ _ _ h => h) (by kernel_rfl) (fun w hw => exec_load_row w rfl (by kernel_rfl) Tryd.underlying23 rfl (by kernel_rfl) hw.1) ?_; (try simp (config := {maxSteps := 2000000}) only [Act.put, List.getElem_toArray, List.getElem_cons_succ, List.getElem_cons_zero, List.setIfInBounds_toArray, List.set_cons_zero, List.set_cons_succ])
      refine Lx.call 32 rfl (by kernel_rfl) (by kernel_rfl) (by kernel_rfl) (fun _ => (digits_short f0 2 3 rfl rfl none 0 0 v15 f0_ok f0_may (by decide) (by decide)).mono ?_)
      rintro e v16 ⟨rfl, hb16⟩
      have hK16 := bnx hK15 hb16 hK15.size
      have hBz_16 := bnx hBz_15 hb16 hBz_15.size
      have hBt_16 := bnx hBt_15 hb16 hBt_15.size
      have hBp_16 := bnx hBp_15 hb16 hBp_15.size
      have hBv_16 := bnx hBv_15 hb16 hBv_15.size
      have hBd_16 := bnx hBd_15 hb16 hBd_15.size
      have hBu_16 := bnx hBu_15 hb16 hBu_15.size
      have hBs_16 := bnx hBs_15 hb16 hBs_15.size
      have hBw_16 := bnx hBw_15 hb16 hBw_15.size
      have hcf_16 := hcf_15.below hb16 hlf_15
      have hlf_16 := Nat.lt_of_lt_of_le hlf_15 hb16.size
      have hcm_16 := hcm_15.below hb16 hlm_15
      have hlm_16 := Nat.lt_of_lt_of_le hlm_15 hb16.size
      refine ⟨_, rfl, ⟨hcf_16, hcm_16⟩, ?_⟩
      (try simp (config := {maxSteps := 2000000}) only [Act.put, List.getElem_toArray, List.getElem_cons_succ, List.getElem_cons_zero, List.setIfInBounds_toArray, List.set_cons_zero, List.set_cons_succ])
      clear hK15 hBz_15 hBt_15 hBp_15 hBv_15 hBd_15 hBu_15 hBs_15 hBw_15 hcf_15 hlf_15 hcm_15 hlm_15 hb16
      (refine Lx.val 33 ?_ rfl (by kernel_rfl) (by kernel_rfl) (by kernel_rfl) (fun _ _ _ h => h) (by kernel_rfl) ?_ ?_; rotate_left 1; focus (intro w hw; go_simp; with_reducible rfl)); (try simp (config := {maxSteps := 2000000}) only [Act.put, List.getElem_toArray, List.getElem_cons_succ, List.getElem_cons_zero, List.setIfInBounds_toArray, List.set_cons_zero, List.set_cons_succ])
      (refine Lx.val 34 ?_ rfl (by kernel_rfl) (by kernel_rfl) (by kernel_rfl) (fun _ _ _ h => h) (by kernel_rfl) ?_ ?_; rotate_left 1; focus (intro w hw; go_simp; with_reducible rfl)); (try simp (config := {maxSteps := 2000000}) only [Act.put, List.getElem_toArray, List.getElem_cons_succ, List.getElem_cons_zero, List.setIfInBounds_toArray, List.set_cons_zero, List.set_cons_succ])
      (refine Lx.val 35 ?_ rfl (by kernel_rfl) (by kernel_rfl) (by kernel_rfl) (fun _ _ _ h => h) (by kernel_rfl) ?_ ?_; rotate_left 1; focus (intro w hw; go_simp; with_reducible rfl)); (try simp (config := {maxSteps := 2000000}) only [Act.put, List.getElem_toArray, List.getElem_cons_succ, List.getElem_cons_zero, List.setIfInBounds_toArray, List.set_cons_zero, List.set_cons_succ])
      (refine Lx.val 36 ?_ rfl (by kernel_rfl) (by kernel_rfl) (by kernel_rfl) (fun _ _ _ h => h) (by kernel_rfl) ?_ ?_; rotate_left 1; focus (intro w hw; go_simp; with_reducible rfl)); (try simp (config := {maxSteps := 2000000}) only [Act.put, List.getElem_toArray, List.getElem_cons_succ, List.getElem_cons_zero, List.setIfInBounds_toArray, List.set_cons_zero, List.set_cons_succ])
      refine Lx.done (by kernel_rfl) ?_
      intro _
      (try simp (config := {maxSteps := 2000000}) only [Act.put, List.getElem_toArray, List.getElem_cons_succ, List.getElem_cons_zero, List.setIfInBounds_toArray, List.set_cons_zero, List.set_cons_succ])
      go_wp2_with fail
      go_ret
      exact ⟨by kernel_rfl, hK16⟩
  · have hRv := (Rd.marked6 v7 26 .u32 [5, 5] (0, 0)).more (B' := (v7.alloc (.cells (U .u32 [5, 5]) 26)).heap.size) (by simp)
    have hz8 : (v7.alloc (.cells (U .u32 [5, 5]) 26)).heap.size = v7.heap.size + 1 := by simp
    have hK8 := bal hK7 hK7.size (.cells (U .u32 [5, 5]) 26)
    have hBz_8 := bal hBz_7 hBz_7.size (.cells (U .u32 [5, 5]) 26)
    have hBt_8 := bal hBt_7 hBt_7.size (.cells (U .u32 [5, 5]) 26)
    have hcf_8 := hcf_7.alloc (.cells (U .u32 [5, 5]) 26)
    have hlf_8 := Nat.lt_of_lt_of_le hlf_7 (al_le v7 (.cells (U .u32 [5, 5]) 26))
    have hcm_8 := hcm_7.alloc (.cells (U .u32 [5, 5]) 26)
    have hlm_8 := Nat.lt_of_lt_of_le hlm_7 (al_le v7 (.cells (U .u32 [5, 5]) 26))
    refine LxOp.made (w' := v7.alloc (.cells (U .u32 [5, 5]) 26)) 11 (.slice (some ⟨v7.heap.size, 0, none⟩) 2 2) rfl (by kernel_rfl) (by kernel_rfl) (fun _ => ⟨hcf_8, hcm_8⟩) ?_
    (try simp (config := {maxSteps := 2000000}) only [Act.put, List.getElem_toArray, List.getElem_cons_succ, List.getElem_cons_zero, List.setIfInBounds_toArray, List.set_cons_zero, List.set_cons_succ])
    generalize v7.alloc (.cells (U .u32 [5, 5]) 26) = v8 at hK8 hBz_8 hBt_8 hcf_8 hlf_8 hcm_8 hlm_8 hz8 hRv ⊢
    clear hK7 hBz_7 hBt_7 hcf_7 hlf_7 hcm_7 hlm_7
    have hRv : Rd v8 v8.heap.size .u32 (some ⟨v7.heap.size, 0, none⟩) [5, 5] := hRv
    have hBv_8 := Below.refl v8.heap.size v8
    have hRp := (Rd.marked6 v8 5 .u8 [180] (0, 0)).more (B' := (v8.alloc (.cells (U .u8 [180]) 5)).heap.size) (by simp)
    have hz9 : (v8.alloc (.cells (U .u8 [180]) 5)).heap.size = v8.heap.size + 1 := by simp
    have hK9 := bal hK8 hK8.size (.cells (U .u8 [180]) 5)
    have hBz_9 := bal hBz_8 hBz_8.size (.cells (U .u8 [180]) 5)
    have hBt_9 := bal hBt_8 hBt_8.size (.cells (U .u8 [180]) 5)
    have hBv_9 := bal hBv_8 hBv_8.size (.cells (U .u8 [180]) 5)
    have hcf_9 := hcf_8.alloc (.cells (U .u8 [180]) 5)
    have hlf_9 := Nat.lt_of_lt_of_le hlf_8 (al_le v8 (.cells (U .u8 [180]) 5))
    have hcm_9 := hcm_8.alloc (.cells (U .u8 [180]) 5)
    have hlm_9 := Nat.lt_of_lt_of_le hlm_8 (al_le v8 (.cells (U .u8 [180]) 5))
    refine Lx.made (w' := v8.alloc (.cells (U .u8 [180]) 5)) 9 (.slice (some ⟨v8.heap.size, 0, none⟩) 1 1) rfl (by kernel_rfl) (by kernel_rfl) (by kernel_rfl) (fun _ => ⟨hcf_9, hcm_9⟩) ?_
    (try simp (config := {maxSteps := 2000000}) only [Act.put, List.getElem_toArray, List.getElem_cons_succ, List.getElem_cons_zero, List.setIfInBounds_toArray, List.set_cons_zero, List.set_cons_succ])
    generalize v8.alloc (.cells (U .u8 [180]) 5) = v9 at hK9 hBz_9 hBt_9 hBv_9 hcf_9 hlf_9 hcm_9 hlm_9 hz9 hRp ⊢
    clear hK8 hBz_8 hBt_8 hBv_8 hcf_8 hlf_8 hcm_8 hlm_8
    have hRp : Rd v9 v9.heap.size .u8 (some ⟨v8.heap.size, 0, none⟩) [180] := hRp
    have hBp_9 := Below.refl v9.heap.size v9
    refine Lx.call 10 rfl (by kernel_rfl) (by kernel_rfl) (by kernel_rfl) (fun _ => (digits_any f0 2 3 rfl rfl [180] (some ⟨v8.heap.size, 0, none⟩) 1 1 v9 f0_ok f0_may (hRp.bel hBp_9) rfl (by decide) (by decide) (by decide) b180).mono ?_)
    rintro e v10 ⟨Ad, cd, rfl, hF10, hh10, hb10⟩
    have hK10 := bnx hK9 hb10 hK9.size
    have hBz_10 := bnx hBz_9 hb10 hBz_9.size
    have hBt_10 := bnx hBt_9 hb10 hBt_9.size
    have hBv_10 := bnx hBv_9 hb10 hBv_9.size
    have hBp_10 := bnx hBp_9 hb10 hBp_9.size
    have hcf_10 := hcf_9.below hb10 hlf_9
    have hlf_10 := Nat.lt_of_lt_of_le hlf_9 hb10.size
    have hcm_10 := hcm_9.below hb10 hlm_9
    have hlm_10 := Nat.lt_of_lt_of_le hlm_9 hb10.size
    refine ⟨_, rfl, ⟨hcf_10, hcm_10⟩, ?_⟩
    (try simp (config := {maxSteps := 2000000}) only [Act.put, List.getElem_toArray, List.getElem_cons_succ, List.getElem_cons_zero, List.setIfInBounds_toArray, List.set_cons_zero, List.set_cons_succ])
    have hRd := hF10
    have hBd_10 := Below.refl v10.heap.size v10
    clear hK9 hBz_9 hBt_9 hBv_9 hBp_9 hcf_9 hlf_9 hcm_9 hlm_9 hb10 hF10 hh10
    refine Lx.call 12 rfl (by kernel_rfl) (by kernel_rfl) (by kernel_rfl) (fun _ => (words_to v10 Ad (some ⟨v7.heap.size, 0, none⟩) (digsL [180] 3 2) [5, 5] 2 2 cd 2 true (hRd.bel hBd_10) (hRv.bel hBv_10) rfl rfl (by decide) (decide_eq_true d180)).mono ?_)
    rintro e v11 ⟨rfl, hb11⟩
    have hK11 := bnx hK10 hb11 hK10.size
    have hBz_11 := bnx hBz_10 hb11 hBz_10.size
    have hBt_11 := bnx hBt_10 hb11 hBt_10.size
    have hBv_11 := bnx hBv_10 hb11 hBv_10.size
    have hBp_11 := bnx hBp_10 hb11 hBp_10.size
    have hBd_11 := bnx hBd_10 hb11 hBd_10.size
    have hcf_11 := hcf_10.below hb11 hlf_10
    have hlf_11 := Nat.lt_of_lt_of_le hlf_10 hb11.size
    have hcm_11 := hcm_10.below hb11 hlm_10
    have hlm_11 := Nat.lt_of_lt_of_le hlm_10 hb11.size
    refine ⟨_, rfl, ⟨hcf_11, hcm_11⟩, ?_⟩
    (try simp (config := {maxSteps := 2000000}) only [Act.put, List.getElem_toArray, List.getElem_cons_succ, List.getElem_cons_zero, List.setIfInBounds_toArray, List.set_cons_zero, List.set_cons_succ])
    clear hK10 hBz_10 hBt_10 hBv_10 hBp_10 hBd_10 hcf_10 hlf_10 hcm_10 hlm_10 hb11
    (refine Lx.val 13 ?_ rfl (by kernel_rfl) (by kernel_rfl) (by kernel_rfl) (fun _ _ _ h => h) (by kernel_rfl) ?_ ?_; rotate_left 1; focus (intro w hw; go_simp; with_reducible rfl)); (try simp (config := {maxSteps := 2000000}) only [Act.put, List.getElem_toArray, List.getElem_cons_succ, List.getElem_cons_zero, List.setIfInBounds_toArray, List.set_cons_zero, List.set_cons_succ])
    (refine Lx.val 14 ?_ rfl (by kernel_rfl) (by kernel_rfl) (by kernel_rfl) (fun _ _ _ h => h) (by kernel_rfl) ?_ ?_; rotate_left 1; focus (intro w hw; go_simp; with_reducible rfl)); (try simp (config := {maxSteps := 2000000}) only [Act.put, List.getElem_toArray, List.getElem_cons_succ, List.getElem_cons_zero, List.setIfInBounds_toArray, List.set_cons_zero, List.set_cons_succ])
    (refine Lx.val 15 ?_ rfl (by kernel_rfl) (by kernel_rfl) (by kernel_rfl) (fun _ _ _ h => h) (by kernel_rfl) ?_ ?_; rotate_left 1; focus (intro w hw; go_simp; with_reducible rfl)); (try simp (config := {maxSteps := 2000000}) only [Act.put, List.getElem_toArray, List.getElem_cons_succ, List.getElem_cons_zero, List.setIfInBounds_toArray, List.set_cons_zero, List.set_cons_succ])
    (refine Lx.val 16 ?_ rfl (by kernel_rfl) (by kernel_rfl) (by kernel_rfl) (fun _ _ _ h => h) (by kernel_rfl) ?_ ?_; rotate_left 1; focus (intro w hw; go_simp; with_reducible rfl)); (try simp (config := {maxSteps := 2000000}) only [Act.put, List.getElem_toArray, List.getElem_cons_succ, List.getElem_cons_zero, List.setIfInBounds_toArray, List.set_cons_zero, List.set_cons_succ])
    (refine Lx.val 17 ?_ rfl (by kernel_rfl) (by kernel_rfl) (by kernel_rfl) (fun _ _ _ h => h) (by kernel_rfl) ?_ ?_; rotate_left 1; focus (intro w hw; go_simp; with_reducible rfl)); (try simp (config := {maxSteps := 2000000}) only [Act.put, List.getElem_toArray, List.getElem_cons_succ, List.getElem_cons_zero, List.setIfInBounds_toArray, List.set_cons_zero, List.set_cons_succ])
    (refine Lx.val 18 ?_ rfl (by kernel_rfl) (by kernel_rfl) (by kernel_rfl) (fun _ _ _ h => h) (by kernel_rfl) ?_ ?_; rotate_left 1; focus (intro w hw; go_simp; with_reducible rfl)); (try simp (config := {maxSteps := 2000000}) only [Act.put, List.getElem_toArray, List.getElem_cons_succ, List.getElem_cons_zero, List.setIfInBounds_toArray, List.set_cons_zero, List.set_cons_succ])
    (refine Lx.val 19 ?_ rfl (by kernel_rfl) (by kernel_rfl) (by kernel_rfl) (fun _ _ _ h => h) (by kernel_rfl) ?_ ?_; rotate_left 1; focus (intro w hw; go_simp; with_reducible rfl)); (try simp (config := {maxSteps := 2000000}) only [Act.put, List.getElem_toArray, List.getElem_cons_succ, List.getElem_cons_zero, List.setIfInBounds_toArray, List.set_cons_zero, List.set_cons_succ])
    refine Lx.val 20 (.agg f0.cs) rfl (by kernel_rfl) (by kernel_rfl) (by kernel_rfl) (fun _ _ _ h => h) (by kernel_rfl) (fun w hw => exec_load_row w rfl (by kernel_rfl) Tryd.underlying23 rfl (by kernel_rfl) hw.1) ?_; (try simp (config := {maxSteps := 2000000}) only [Act.put, List.getElem_toArray, List.getElem_cons_succ, List.getElem_cons_zero, List.setIfInBounds_toArray, List.set_cons_zero, List.set_cons_succ])
    (refine Lx.val 21 ?_ rfl (by kernel_rfl) (by kernel_rfl) (by kernel_rfl) (fun _ _ _ h => h) (by kernel_rfl) ?_ ?_; rotate_left 1; focus (intro w hw; go_simp; with_reducible rfl)); (try simp (config := {maxSteps := 2000000}) only [Act.put, List.getElem_toArray, List.getElem_cons_succ, List.getElem_cons_zero, List.setIfInBounds_toArray, List.set_cons_zero, List.set_cons_succ])
    (refine Lx.val 23 ?_ rfl (by kernel_rfl) (by kernel_rfl) (by kernel_rfl) (fun _ _ _ h => h) (by kernel_rfl) ?_ ?_; rotate_left 1; focus (intro w hw; go_simp; with_reducible rfl)); (try simp (config := {maxSteps := 2000000}) only [Act.put, List.getElem_toArray, List.getElem_cons_succ, List.getElem_cons_zero, List.setIfInBounds_toArray, List.set_cons_zero, List.set_cons_succ])
    refine Lx.val 25 (.agg f0.cs) rfl (by kernel_rfl) (by kernel_rfl) (by kernel_rfl) (fun _ _ _ h => h) (by kernel_rfl) (fun w hw => exec_load_row w rfl (by kernel_rfl) Tryd.underlying23 rfl (by kernel_rfl) hw.1) ?_; (try simp (config := {maxSteps := 2000000}) only [Act.put, List.getElem_toArray, List.getElem_cons_succ, List.getElem_cons_zero, List.setIfInBounds_toArray, List.set_cons_zero, List.set_cons_succ])
    refine Lx.val 26 (.agg #[.slice (some ⟨gz, 0, none⟩) 16 16, .slice (some ⟨gz, 0, none⟩) 16 16, .slice (some ⟨gz, 0, none⟩) 16 16]) rfl (by kernel_rfl) (by kernel_rfl) (by kernel_rfl) (fun _ _ _ h => h) (by kernel_rfl) (fun w hw => exec_load_row w rfl (by kernel_rfl) Tryd.underlying39 rfl (by kernel_rfl) hw.2) ?_; (try simp (config := {maxSteps := 2000000}) only [Act.put, List.getElem_toArray, List.getElem_cons_succ, List.getElem_cons_zero, List.setIfInBounds_toArray, List.set_cons_zero, List.set_cons_succ])
    have hRu := (Rd.marked6 v11 5 .u8 [180] (0, 0)).more (B' := (v11.alloc (.cells (U .u8 [180]) 5)).heap.size) (by simp)
    have hz12 : (v11.alloc (.cells (U .u8 [180]) 5)).heap.size = v11.heap.size + 1 := by simp
    have hK12 := bal hK11 hK11.size (.cells (U .u8 [180]) 5)
    have hBz_12 := bal hBz_11 hBz_11.size (.cells (U .u8 [180]) 5)
    have hBt_12 := bal hBt_11 hBt_11.size (.cells (U .u8 [180]) 5)
    have hBv_12 := bal hBv_11 hBv_11.size (.cells (U .u8 [180]) 5)
    have hBp_12 := bal hBp_11 hBp_11.size (.cells (U .u8 [180]) 5)
    have hBd_12 := bal hBd_11 hBd_11.size (.cells (U .u8 [180]) 5)
    have hcf_12 := hcf_11.alloc (.cells (U .u8 [180]) 5)
    have hlf_12 := Nat.lt_of_lt_of_le hlf_11 (al_le v11 (.cells (U .u8 [180]) 5))
    have hcm_12 := hcm_11.alloc (.cells (U .u8 [180]) 5)
    have hlm_12 := Nat.lt_of_lt_of_le hlm_11 (al_le v11 (.cells (U .u8 [180]) 5))
    refine Lx.made (w' := v11.alloc (.cells (U .u8 [180]) 5)) 22 (.slice (some ⟨v11.heap.size, 0, none⟩) 1 1) rfl (by kernel_rfl) (by kernel_rfl) (by kernel_rfl) (fun _ => ⟨hcf_12, hcm_12⟩) ?_
    (try simp (config := {maxSteps := 2000000}) only [Act.put, List.getElem_toArray, List.getElem_cons_succ, List.getElem_cons_zero, List.setIfInBounds_toArray, List.set_cons_zero, List.set_cons_succ])
    generalize v11.alloc (.cells (U .u8 [180]) 5) = v12 at hK12 hBz_12 hBt_12 hBv_12 hBp_12 hBd_12 hcf_12 hlf_12 hcm_12 hlm_12 hz12 hRu ⊢
    clear hK11 hBz_11 hBt_11 hBv_11 hBp_11 hBd_11 hcf_11 hlf_11 hcm_11 hlm_11
    have hRu : Rd v12 v12.heap.size .u8 (some ⟨v11.heap.size, 0, none⟩) [180] := hRu
    have hBu_12 := Below.refl v12.heap.size v12
    refine Lx.call 24 rfl (by kernel_rfl) (by kernel_rfl) (by kernel_rfl) (fun _ => (stands_any f0 2 3 rfl rfl f0_ok (some ⟨gz, 0, none⟩) (some ⟨v11.heap.size, 0, none⟩) At 16 16 1 1 128 ct 1 2 v12 z16 (tellS 16 z16 z16 1 2 [180] 3 2) u64_1 w32_2 f0_may [180] (hRu.bel hBu_12) rfl (by decide) (by decide) b180 (by decide) f0_sz (hRz2.bel hBz_12) rfl (by decide) z16_B (hRt.bel hBt_12) t0_len hct t0_B (by decide) (hT.bel hK12)).mono ?_)
    rintro e v13 ⟨As, cs, rfl, hF13, hh13, hb13⟩
    have hK13 := bnx hK12 hb13 hK12.size
    have hBz_13 := bnx hBz_12 hb13 hBz_12.size
    have hBt_13 := bnx hBt_12 hb13 hBt_12.size
    have hBv_13 := bnx hBv_12 hb13 hBv_12.size
    have hBp_13 := bnx hBp_12 hb13 hBp_12.size
    have hBd_13 := bnx hBd_12 hb13 hBd_12.size
    have hBu_13 := bnx hBu_12 hb13 hBu_12.size
    have hcf_13 := hcf_12.below hb13 hlf_12
    have hlf_13 := Nat.lt_of_lt_of_le hlf_12 hb13.size
    have hcm_13 := hcm_12.below hb13 hlm_12
    have hlm_13 := Nat.lt_of_lt_of_le hlm_12 hb13.size
    refine ⟨_, rfl, ⟨hcf_13, hcm_13⟩, ?_⟩
    (try simp (config := {maxSteps := 2000000}) only [Act.put, List.getElem_toArray, List.getElem_cons_succ, List.getElem_cons_zero, List.setIfInBounds_toArray, List.set_cons_zero, List.set_cons_succ])
    have hRs := hF13
    have hBs_13 := Below.refl v13.heap.size v13
    clear hK12 hBz_12 hBt_12 hBv_12 hBp_12 hBd_12 hBu_12 hcf_12 hlf_12 hcm_12 hlm_12 hb13 hF13 hh13
    change Rd _ _ _ _ (standsL 16 z16 1 2 (tellS 16 z16 z16 1 2 [180] 3 2) [180] 16 3 2) at hRs
    rw [t0_st] at hRs
    refine Lx.call 27 rfl (by kernel_rfl) (by kernel_rfl) (by kernel_rfl) (fun _ => (rwhole_any f0 2 3 rfl rfl f0_ok z16 z16 (some ⟨gz, 0, none⟩) (some ⟨gz, 0, none⟩) (some ⟨gz, 0, none⟩) 16 16 16 16 16 16 1 2 v13 u64_1 w32_2 f0_made (hRz2.bel hBz_13) rfl (by decide) z16_B (hRz2.bel hBz_13) rfl (by decide) z16_B).mono ?_)
    rintro e v14 ⟨Aw, cw, rfl, hF14, hh14, hb14⟩
    have hK14 := bnx hK13 hb14 hK13.size
    have hBz_14 := bnx hBz_13 hb14 hBz_13.size
    have hBt_14 := bnx hBt_13 hb14 hBt_13.size
    have hBv_14 := bnx hBv_13 hb14 hBv_13.size
    have hBp_14 := bnx hBp_13 hb14 hBp_13.size
    have hBd_14 := bnx hBd_13 hb14 hBd_13.size
    have hBu_14 := bnx hBu_13 hb14 hBu_13.size
    have hBs_14 := bnx hBs_13 hb14 hBs_13.size
    have hcf_14 := hcf_13.below hb14 hlf_13
    have hlf_14 := Nat.lt_of_lt_of_le hlf_13 hb14.size
    have hcm_14 := hcm_13.below hb14 hlm_13
    have hlm_14 := Nat.lt_of_lt_of_le hlm_13 hb14.size
    refine ⟨_, rfl, ⟨hcf_14, hcm_14⟩, ?_⟩
    (try simp (config := {maxSteps := 2000000}) only [Act.put, List.getElem_toArray, List.getElem_cons_succ, List.getElem_cons_zero, List.setIfInBounds_toArray, List.set_cons_zero, List.set_cons_succ])
    have hRw := hF14
    have hBw_14 := Below.refl v14.heap.size v14
    clear hK13 hBz_13 hBt_13 hBv_13 hBp_13 hBd_13 hBu_13 hBs_13 hcf_13 hlf_13 hcm_13 hlm_13 hb14 hF14 hh14
    change Rd _ _ _ _ (wholeL 16 z16 z16 1 2 3 2) at hRw
    refine Lx.call 28 rfl (by kernel_rfl) (by kernel_rfl) (by kernel_rfl) (fun _ => (same_is_b v14 As Aw (wholeL 16 z16 z16 1 2 3 2) 16 cs cw (hRs.bel hBs_14) (hRw.bel hBw_14) (by unfold wholeL; exact atL_nd (N := 16) f0_sz _ _ _ _ _ _) (by decide)).mono ?_)
    rintro e v15 ⟨rfl, hb15⟩
    have hK15 := bnx hK14 hb15 hK14.size
    have hBz_15 := bnx hBz_14 hb15 hBz_14.size
    have hBt_15 := bnx hBt_14 hb15 hBt_14.size
    have hBv_15 := bnx hBv_14 hb15 hBv_14.size
    have hBp_15 := bnx hBp_14 hb15 hBp_14.size
    have hBd_15 := bnx hBd_14 hb15 hBd_14.size
    have hBu_15 := bnx hBu_14 hb15 hBu_14.size
    have hBs_15 := bnx hBs_14 hb15 hBs_14.size
    have hBw_15 := bnx hBw_14 hb15 hBw_14.size
    have hcf_15 := hcf_14.below hb15 hlf_14
    have hlf_15 := Nat.lt_of_lt_of_le hlf_14 hb15.size
    have hcm_15 := hcm_14.below hb15 hlm_14
    have hlm_15 := Nat.lt_of_lt_of_le hlm_14 hb15.size
    refine ⟨_, rfl, ⟨hcf_15, hcm_15⟩, ?_⟩
    (try simp (config := {maxSteps := 2000000}) only [Act.put, List.getElem_toArray, List.getElem_cons_succ, List.getElem_cons_zero, List.setIfInBounds_toArray, List.set_cons_zero, List.set_cons_succ])
    clear hK14 hBz_14 hBt_14 hBv_14 hBp_14 hBd_14 hBu_14 hBs_14 hBw_14 hcf_14 hlf_14 hcm_14 hlm_14 hb15
    (refine Lx.val 29 ?_ rfl (by kernel_rfl) (by kernel_rfl) (by kernel_rfl) (fun _ _ _ h => h) (by kernel_rfl) ?_ ?_; rotate_left 1; focus (intro w hw; go_simp; with_reducible rfl)); (try simp (config := {maxSteps := 2000000}) only [Act.put, List.getElem_toArray, List.getElem_cons_succ, List.getElem_cons_zero, List.setIfInBounds_toArray, List.set_cons_zero, List.set_cons_succ])
    (refine Lx.val 30 ?_ rfl (by kernel_rfl) (by kernel_rfl) (by kernel_rfl) (fun _ _ _ h => h) (by kernel_rfl) ?_ ?_; rotate_left 1; focus (intro w hw; go_simp; with_reducible rfl)); (try simp (config := {maxSteps := 2000000}) only [Act.put, List.getElem_toArray, List.getElem_cons_succ, List.getElem_cons_zero, List.setIfInBounds_toArray, List.set_cons_zero, List.set_cons_succ])
    refine Lx.val 31 (.agg f0.cs) rfl (by kernel_rfl) (by kernel_rfl) (by kernel_rfl) (fun _ _ _ h => h) (by kernel_rfl) (fun w hw => exec_load_row w rfl (by kernel_rfl) Tryd.underlying23 rfl (by kernel_rfl) hw.1) ?_; (try simp (config := {maxSteps := 2000000}) only [Act.put, List.getElem_toArray, List.getElem_cons_succ, List.getElem_cons_zero, List.setIfInBounds_toArray, List.set_cons_zero, List.set_cons_succ])
    refine Lx.call 32 rfl (by kernel_rfl) (by kernel_rfl) (by kernel_rfl) (fun _ => (digits_short f0 2 3 rfl rfl none 0 0 v15 f0_ok f0_may (by decide) (by decide)).mono ?_)
    rintro e v16 ⟨rfl, hb16⟩
    have hK16 := bnx hK15 hb16 hK15.size
    have hBz_16 := bnx hBz_15 hb16 hBz_15.size
    have hBt_16 := bnx hBt_15 hb16 hBt_15.size
    have hBv_16 := bnx hBv_15 hb16 hBv_15.size
    have hBp_16 := bnx hBp_15 hb16 hBp_15.size
    have hBd_16 := bnx hBd_15 hb16 hBd_15.size
    have hBu_16 := bnx hBu_15 hb16 hBu_15.size
    have hBs_16 := bnx hBs_15 hb16 hBs_15.size
    have hBw_16 := bnx hBw_15 hb16 hBw_15.size
    have hcf_16 := hcf_15.below hb16 hlf_15
    have hlf_16 := Nat.lt_of_lt_of_le hlf_15 hb16.size
    have hcm_16 := hcm_15.below hb16 hlm_15
    have hlm_16 := Nat.lt_of_lt_of_le hlm_15 hb16.size
    refine ⟨_, rfl, ⟨hcf_16, hcm_16⟩, ?_⟩
    (try simp (config := {maxSteps := 2000000}) only [Act.put, List.getElem_toArray, List.getElem_cons_succ, List.getElem_cons_zero, List.setIfInBounds_toArray, List.set_cons_zero, List.set_cons_succ])
    clear hK15 hBz_15 hBt_15 hBv_15 hBp_15 hBd_15 hBu_15 hBs_15 hBw_15 hcf_15 hlf_15 hcm_15 hlm_15 hb16
    (refine Lx.val 33 ?_ rfl (by kernel_rfl) (by kernel_rfl) (by kernel_rfl) (fun _ _ _ h => h) (by kernel_rfl) ?_ ?_; rotate_left 1; focus (intro w hw; go_simp; with_reducible rfl)); (try simp (config := {maxSteps := 2000000}) only [Act.put, List.getElem_toArray, List.getElem_cons_succ, List.getElem_cons_zero, List.setIfInBounds_toArray, List.set_cons_zero, List.set_cons_succ])
    (refine Lx.val 34 ?_ rfl (by kernel_rfl) (by kernel_rfl) (by kernel_rfl) (fun _ _ _ h => h) (by kernel_rfl) ?_ ?_; rotate_left 1; focus (intro w hw; go_simp; with_reducible rfl)); (try simp (config := {maxSteps := 2000000}) only [Act.put, List.getElem_toArray, List.getElem_cons_succ, List.getElem_cons_zero, List.setIfInBounds_toArray, List.set_cons_zero, List.set_cons_succ])
    (refine Lx.val 35 ?_ rfl (by kernel_rfl) (by kernel_rfl) (by kernel_rfl) (fun _ _ _ h => h) (by kernel_rfl) ?_ ?_; rotate_left 1; focus (intro w hw; go_simp; with_reducible rfl)); (try simp (config := {maxSteps := 2000000}) only [Act.put, List.getElem_toArray, List.getElem_cons_succ, List.getElem_cons_zero, List.setIfInBounds_toArray, List.set_cons_zero, List.set_cons_succ])
    (refine Lx.val 36 ?_ rfl (by kernel_rfl) (by kernel_rfl) (by kernel_rfl) (fun _ _ _ h => h) (by kernel_rfl) ?_ ?_; rotate_left 1; focus (intro w hw; go_simp; with_reducible rfl)); (try simp (config := {maxSteps := 2000000}) only [Act.put, List.getElem_toArray, List.getElem_cons_succ, List.getElem_cons_zero, List.setIfInBounds_toArray, List.set_cons_zero, List.set_cons_succ])
    refine Lx.done (by kernel_rfl) ?_
    intro _
    (try simp (config := {maxSteps := 2000000}) only [Act.put, List.getElem_toArray, List.getElem_cons_succ, List.getElem_cons_zero, List.setIfInBounds_toArray, List.set_cons_zero, List.set_cons_succ])
    go_wp2_with fail
    go_ret
    exact ⟨by kernel_rfl, hK16⟩
end Go.Proofs.YtfaonieaagepjaaDoor
