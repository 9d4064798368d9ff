/- ForsTells, walked. Conditions: what is read reads as bytes; the tables. -/
import Derived.Test.YtfaonieaagepjaaDoorF7T
namespace Go.Proofs.YtfaonieaagepjaaDoor
open Go.RowKit
set_option linter.unusedVariables false
set_option linter.unusedSimpArgs false
theorem digO_le (f : Fw) (b : List Int) : (digO f b).length ≤ 9223372036854775807 := by
  unfold digO; split
  · rename_i h; rw [digsL_len]; have := h.1.k; omega
  · simp
theorem wholeO_le (f : Fw) (nsl : Nat) (sd sec : List Int) (tree q : Int) : (wholeO f nsl sd sec tree q).length ≤ 9223372036854775807 := by
  unfold wholeO; split
  · exact Nat.le_trans (atL_len _ _ _ _ _ _ _ _) (by decide)
  · simp
theorem tellO_le (f : Fw) (nsl : Nat) (sd sec : List Int) (tree q : Int) (b : List Int) : (tellO f nsl sd sec tree q b).length ≤ 9223372036854775807 := by
  unfold tellO; split
  · rename_i h
    have h1 := h.1.szd rfl
    rw [tellS_len h1]
    have h2 : sd.length ≤ 32 := by have := h1.n; have := h1.e; omega
    have h3 := h.1.a
    have h4 := h.1.may.k
    exact Nat.le_trans (Nat.mul_le_mul h2 (Nat.mul_le_mul (show f.a.toNat + 1 ≤ 7 by omega) (show f.k.toNat ≤ 40 by omega))) (by decide)
  · simp
set_option maxRecDepth 100000 in
set_option maxHeartbeats 8000000 in
theorem forsTells_walk (f : Fw) (tree q : Int) (sec sal sd bt told : List Int) (Asc Asl Asd Ab At : Option Addr) (csc csl cd cb ct : Nat) (w : World) (hf : f.ok) (hU : U64 tree) (hq : W32 q) (hsc : Rd w w.heap.size .u8 Asc sec) (hcsc : sec.length ≤ csc) (hmsc : csc ≤ 9223372036854775807) (hbsc : Bys sec) (hsl : Rd w w.heap.size .u8 Asl sal) (hcsl : sal.length ≤ csl) (hmsl : csl ≤ 9223372036854775807) (hbsl : Bys sal) (hsd : Rd w w.heap.size .u8 Asd sd) (hcsd : sd.length ≤ cd) (hmsd : cd ≤ 9223372036854775807) (hbsd : Bys sd) (hb : Rd w w.heap.size .u8 Ab bt) (hcb : bt.length ≤ cb) (hmb : cb ≤ 9223372036854775807) (hbb : Bys bt) (ht : Rd w w.heap.size .u8 At told) (hct : told.length ≤ ct) (hmt : ct ≤ 9223372036854775807) (hbt : Bys told) (hT : KTab w) :
    Calls Tryd.prog 5 #[.agg f.cs, .agg #[.slice Asc sec.length csc, .slice Asl sal.length csl, .slice Asd sd.length cd], .agg #[.int .u64 tree, .int .u32 q, .slice Ab bt.length cb, .slice At told.length ct]] w fun e w' => e = .returned (.bool true) ∧ Below w.heap.size w w' := by
  obtain ⟨nsc, hnsc⟩ : ∃ n, sec.length = n := ⟨_, rfl⟩
  rw [hnsc] at hcsc ⊢
  obtain ⟨nsl, hnsl⟩ : ∃ n, sal.length = n := ⟨_, rfl⟩
  rw [hnsl] at hcsl ⊢
  obtain ⟨nd, hnsd⟩ : ∃ n, sd.length = n := ⟨_, rfl⟩
  rw [hnsd] at hcsd ⊢
  obtain ⟨L, hnb⟩ : ∃ n, bt.length = n := ⟨_, rfl⟩
  rw [hnb] at hcb ⊢
  obtain ⟨mt, hnt⟩ : ∃ n, told.length = n := ⟨_, rfl⟩
  rw [hnt] at hct ⊢
  have hmx : (200000000 : Nat) ≤ maxLen := by decide
  have hXf := ((Blk.new w 23 f.cs).alloc (.cells #[.slice Asc nsc csc, .slice Asl nsl csl, .slice Asd nd cd] 39)).alloc (.cells #[.int .u64 tree, .int .u32 q, .slice Ab L cb, .slice At mt ct] 28)
  have hXm := (Blk.new (w.alloc (.cells f.cs 23)) 39 #[.slice Asc nsc csc, .slice Asl nsl csl, .slice Asd nd cd]).alloc (.cells #[.int .u64 tree, .int .u32 q, .slice Ab L cb, .slice At mt ct] 28)
  have hXp := Blk.new ((w.alloc (.cells f.cs 23)).alloc (.cells #[.slice Asc nsc csc, .slice Asl nsl csl, .slice Asd nd cd] 39)) 28 #[.int .u64 tree, .int .u32 q, .slice Ab L cb, .slice At mt ct]
  have hKx := bal (bal (bal (Below.refl w.heap.size w) (Nat.le_refl _) (.cells f.cs 23)) (by simp) (.cells #[.slice Asc nsc csc, .slice Asl nsl csl, .slice Asd nd cd] 39)) (by simp; omega) (.cells #[.int .u64 tree, .int .u32 q, .slice Ab L cb, .slice At mt ct] 28)
  have hz1 : (w.alloc (.cells f.cs 23)).heap.size = w.heap.size + 1 := by simp
  have hz2 : ((w.alloc (.cells f.cs 23)).alloc (.cells #[.slice Asc nsc csc, .slice Asl nsl csl, .slice Asd nd cd] 39)).heap.size = w.heap.size + 2 := by simp
  go_enter Tryd.func5, Tryd.ntmps5
  go_upto_region 1 with fail
  change Code.wp _ _ _ _ (((w.alloc (.cells f.cs 23)).alloc (.cells #[.slice Asc nsc csc, .slice Asl nsl csl, .slice Asd nd cd] 39)).alloc (.cells #[.int .u64 tree, .int .u32 q, .slice Ab L cb, .slice At mt ct] 28))
  generalize (((w.alloc (.cells f.cs 23)).alloc (.cells #[.slice Asc nsc csc, .slice Asl nsl csl, .slice Asd nd cd] 39)).alloc (.cells #[.int .u64 tree, .int .u32 q, .slice Ab L cb, .slice At mt ct] 28)) = w0 at hXf hXm hXp hKx ⊢
  rw [hz1] at hXm
  rw [hz2] at hXp
  clear hz1 hz2
  have hm0 := hXm.cell 0 _ rfl
  have hm1 := hXm.cell 1 _ rfl
  have hm2 := hXm.cell 2 _ rfl
  have hp0 := hXp.cell 0 _ rfl
  have hp1 := hXp.cell 1 _ rfl
  have hp2 := hXp.cell 2 _ rfl
  have hp3 := hXp.cell 3 _ rfl
  have hlf := hXf.lt
  have hlm := hXm.lt
  have hlp := hXp.lt
  have hlm0 := hlm
  have hlm1 := hlm
  have hlm2 := hlm
  have hlp0 := hlp
  have hlp1 := hlp
  have hlp2 := hlp
  have hlp3 := hlp
  clear hXp hlp
  go_wp2_with fail
  (with_reducible refine (awake17_any w0 (hT.bel hKx)).mono ?_)
  rintro e v1 ⟨rfl, hb1⟩
  have hK1 := bnx hKx hb1 hKx.size
  have hcf_1 := hXf.below hb1 hlf
  have hlf_1 := Nat.lt_of_lt_of_le hlf hb1.size
  have hcm_1 := hXm.below hb1 hlm
  have hlm_1 := Nat.lt_of_lt_of_le hlm hb1.size
  have hcm0_1 := cell_bel hm0 hb1 hlm0
  have hlm0_1 := Nat.lt_of_lt_of_le hlm0 hb1.size
  have hcm1_1 := cell_bel hm1 hb1 hlm1
  have hlm1_1 := Nat.lt_of_lt_of_le hlm1 hb1.size
  have hcm2_1 := cell_bel hm2 hb1 hlm2
  have hlm2_1 := Nat.lt_of_lt_of_le hlm2 hb1.size
  have hcp0_1 := cell_bel hp0 hb1 hlp0
  have hlp0_1 := Nat.lt_of_lt_of_le hlp0 hb1.size
  have hcp1_1 := cell_bel hp1 hb1 hlp1
  have hlp1_1 := Nat.lt_of_lt_of_le hlp1 hb1.size
  have hcp2_1 := cell_bel hp2 hb1 hlp2
  have hlp2_1 := Nat.lt_of_lt_of_le hlp2 hb1.size
  have hcp3_1 := cell_bel hp3 hb1 hlp3
  have hlp3_1 := Nat.lt_of_lt_of_le hlp3 hb1.size
  clear hKx hXf hlf hXm hlm hm0 hlm0 hm1 hlm1 hm2 hlm2 hp0 hlp0 hp1 hlp1 hp2 hlp2 hp3 hlp3 hb1
  by_cases hlt : f.light
  rotate_left 1
  · go_wp2_with (first | (refine wpList_blk_yes (t := 23) (T := 23) (by rfl) rfl rfl Tryd.underlying23 rfl (by kernel_rfl) hcf_1 ?_))
    (with_reducible refine (light_no f v1 hf hlt).mono ?_)
    rintro e v2 ⟨rfl, hb2⟩
    have hK2 := bnx hK1 hb2 hK1.size
    have hcf_2 := hcf_1.below hb2 hlf_1
    have hlf_2 := Nat.lt_of_lt_of_le hlf_1 hb2.size
    have hcm_2 := hcm_1.below hb2 hlm_1
    have hlm_2 := Nat.lt_of_lt_of_le hlm_1 hb2.size
    have hcm0_2 := cell_bel hcm0_1 hb2 hlm0_1
    have hlm0_2 := Nat.lt_of_lt_of_le hlm0_1 hb2.size
    have hcm1_2 := cell_bel hcm1_1 hb2 hlm1_1
    have hlm1_2 := Nat.lt_of_lt_of_le hlm1_1 hb2.size
    have hcm2_2 := cell_bel hcm2_1 hb2 hlm2_1
    have hlm2_2 := Nat.lt_of_lt_of_le hlm2_1 hb2.size
    have hcp0_2 := cell_bel hcp0_1 hb2 hlp0_1
    have hlp0_2 := Nat.lt_of_lt_of_le hlp0_1 hb2.size
    have hcp1_2 := cell_bel hcp1_1 hb2 hlp1_1
    have hlp1_2 := Nat.lt_of_lt_of_le hlp1_1 hb2.size
    have hcp2_2 := cell_bel hcp2_1 hb2 hlp2_1
    have hlp2_2 := Nat.lt_of_lt_of_le hlp2_1 hb2.size
    have hcp3_2 := cell_bel hcp3_1 hb2 hlp3_1
    have hlp3_2 := Nat.lt_of_lt_of_le hlp3_1 hb2.size
    clear hK1 hcf_1 hlf_1 hcm_1 hlm_1 hcm0_1 hlm0_1 hcm1_1 hlm1_1 hcm2_1 hlm2_1 hcp0_1 hlp0_1 hcp1_1 hlp1_1 hcp2_1 hlp2_1 hcp3_1 hlp3_1 hb2
    go_wp2_with fail
    go_ret
    exact ⟨rfl, hK2⟩
  go_wp2_with (first | (refine wpList_blk_yes (t := 23) (T := 23) (by rfl) rfl rfl Tryd.underlying23 rfl (by kernel_rfl) hcf_1 ?_))
  (with_reducible refine (light_yes f v1 hf hlt).mono ?_)
  rintro e v2 ⟨rfl, hb2⟩
  have hK2 := bnx hK1 hb2 hK1.size
  have hcf_2 := hcf_1.below hb2 hlf_1
  have hlf_2 := Nat.lt_of_lt_of_le hlf_1 hb2.size
  have hcm_2 := hcm_1.below hb2 hlm_1
  have hlm_2 := Nat.lt_of_lt_of_le hlm_1 hb2.size
  have hcm0_2 := cell_bel hcm0_1 hb2 hlm0_1
  have hlm0_2 := Nat.lt_of_lt_of_le hlm0_1 hb2.size
  have hcm1_2 := cell_bel hcm1_1 hb2 hlm1_1
  have hlm1_2 := Nat.lt_of_lt_of_le hlm1_1 hb2.size
  have hcm2_2 := cell_bel hcm2_1 hb2 hlm2_1
  have hlm2_2 := Nat.lt_of_lt_of_le hlm2_1 hb2.size
  have hcp0_2 := cell_bel hcp0_1 hb2 hlp0_1
  have hlp0_2 := Nat.lt_of_lt_of_le hlp0_1 hb2.size
  have hcp1_2 := cell_bel hcp1_1 hb2 hlp1_1
  have hlp1_2 := Nat.lt_of_lt_of_le hlp1_1 hb2.size
  have hcp2_2 := cell_bel hcp2_1 hb2 hlp2_1
  have hlp2_2 := Nat.lt_of_lt_of_le hlp2_1 hb2.size
  have hcp3_2 := cell_bel hcp3_1 hb2 hlp3_1
  have hlp3_2 := Nat.lt_of_lt_of_le hlp3_1 hb2.size
  clear hK1 hcf_1 hlf_1 hcm_1 hlm_1 hcm0_1 hlm0_1 hcm1_1 hlm1_1 hcm2_1 hlm2_1 hcp0_1 hlp0_1 hcp1_1 hlp1_1 hcp2_1 hlp2_1 hcp3_1 hlp3_1 hb2
  by_cases hgb : 300 < L
  · have hgbI : (300 : Int) < (L : Int) := by omega
    go_wp2_with fail
    go_ret
    exact ⟨rfl, hK2⟩
  have hgbI : ¬ (300 : Int) < (L : Int) := by omega
  by_cases hgsc : 100 < nsc
  · have hgscI : (100 : Int) < (nsc : Int) := by omega
    go_wp2_with fail
    go_ret
    exact ⟨rfl, hK2⟩
  have hgscI : ¬ (100 : Int) < (nsc : Int) := by omega
  by_cases hgsl : 100 < nsl
  · have hgslI : (100 : Int) < (nsl : Int) := by omega
    go_wp2_with fail
    go_ret
    exact ⟨rfl, hK2⟩
  have hgslI : ¬ (100 : Int) < (nsl : Int) := by omega
  by_cases hgsd : 100 < nd
  · have hgsdI : (100 : Int) < (nd : Int) := by omega
    go_wp2_with fail
    go_ret
    exact ⟨rfl, hK2⟩
  have hgsdI : ¬ (100 : Int) < (nd : Int) := by omega
  obtain ⟨bm, hbm⟩ : ∃ b, mayV f = b := ⟨_, rfl⟩
  obtain ⟨bk, hbk⟩ : ∃ b, madeV f nsc nsl nd = b := ⟨_, rfl⟩
  obtain ⟨nD, hnD⟩ : ∃ n, (digO f bt).length = n := ⟨_, rfl⟩
  obtain ⟨nW, hnW⟩ : ∃ n, (wholeO f nsl sd sec tree q).length = n := ⟨_, rfl⟩
  obtain ⟨nT, hnT⟩ : ∃ n, (tellO f nsl sd sec tree q bt).length = n := ⟨_, rfl⟩
  have hD9 : nD ≤ 9223372036854775807 := by rw [← hnD]; exact digO_le f bt
  have hW9 : nW ≤ 9223372036854775807 := by rw [← hnW]; exact wholeO_le f nsl sd sec tree q
  have hT9 : nT ≤ 9223372036854775807 := by rw [← hnT]; exact tellO_le f nsl sd sec tree q bt
  have cM : ∀ wx, _ := fun wx => may_o f wx hf
  have cN : ∀ wx, _ := fun wx => rmay_o f wx hf
  have cP : ∀ wx, _ := fun wx => made_o f Asc Asl Asd nsc csc nsl csl nd cd wx hf
  have cQ : ∀ wx, _ := fun wx => rmade_o f Asc Asl Asd nsc csc nsl csl nd cd wx hf
  rw [hbm] at cM cN
  rw [hbk] at cP cQ
  clear hbm hbk
  go_upto_region 5 with fail
  refine Ls.start (fun w' => Blk w' w.heap.size 23 f.cs ∧ Blk w' (w.heap.size + 1) 39 #[.slice Asc nsc csc, .slice Asl nsl csl, .slice Asd nd cd] ∧ w'.cell? ⟨w.heap.size + 2, 0, none⟩ = some (.int .u64 tree) ∧ w'.cell? ⟨w.heap.size + 2, 1, none⟩ = some (.int .u32 q) ∧ w'.cell? ⟨w.heap.size + 2, 2, none⟩ = some (.slice Ab L cb)) [(0, true), (2, true), (1, false), (3, false), (4, true), (5, true), (6, true), (7, true), (9, true), (10, true), (8, false), (11, false), (12, true), (13, true), (14, true), (15, true), (16, true), (17, true), (19, true), (20, true), (21, true), (18, false), (22, false), (23, false), (24, true), (25, true), (26, true), (27, true), (28, true), (29, true), (30, true), (31, true), (33, true), (34, true), (35, true), (36, true), (37, true), (38, true), (32, false), (39, false), (40, false), (41, true), (42, true), (43, true), (44, true), (45, true), (46, true), (47, true), (48, true), (49, true), (50, true), (52, true), (53, true), (54, true), (55, true), (56, true), (57, true), (58, true), (59, true), (51, false), (60, false), (61, false), (62, true), (63, true)] (by kernel_rfl) (by kernel_rfl) (by kernel_rfl) (by kernel_rfl) ⟨hcf_2.drew, hcm_2.drew, hcp0_2, hcp1_2, hcp2_2⟩ ?_
  refine Ls.val (.agg f.cs) rfl (fun _ _ _ h => h) (by kernel_rfl) (fun w hw => exec_load_row w rfl (by kernel_rfl) Tryd.underlying23 rfl (by kernel_rfl) hw.1) ?_; (try simp (config := {maxSteps := 2000000}) only [Act.put, List.getElem_toArray, List.getElem_cons_succ, List.getElem_cons_zero, List.setIfInBounds_toArray, List.set_cons_zero, List.set_cons_succ])
  refine Ls.val (.agg f.cs) rfl (fun _ _ _ h => h) (by kernel_rfl) (fun w hw => exec_load_row w rfl (by kernel_rfl) Tryd.underlying23 rfl (by kernel_rfl) hw.1) ?_; (try simp (config := {maxSteps := 2000000}) only [Act.put, List.getElem_toArray, List.getElem_cons_succ, List.getElem_cons_zero, List.setIfInBounds_toArray, List.set_cons_zero, List.set_cons_succ])
  have hK3 := bdw hK2
  have hcf_3 := hcf_2.drew
  have hlf_3 := (show _ < v2.drew.heap.size from hlf_2)
  have hcm_3 := hcm_2.drew
  have hlm_3 := (show _ < v2.drew.heap.size from hlm_2)
  have hcm0_3 := cdw hcm0_2
  have hlm0_3 := (show _ < v2.drew.heap.size from hlm0_2)
  have hcm1_3 := cdw hcm1_2
  have hlm1_3 := (show _ < v2.drew.heap.size from hlm1_2)
  have hcm2_3 := cdw hcm2_2
  have hlm2_3 := (show _ < v2.drew.heap.size from hlm2_2)
  have hcp0_3 := cdw hcp0_2
  have hlp0_3 := (show _ < v2.drew.heap.size from hlp0_2)
  have hcp1_3 := cdw hcp1_2
  have hlp1_3 := (show _ < v2.drew.heap.size from hlp1_2)
  have hcp2_3 := cdw hcp2_2
  have hlp2_3 := (show _ < v2.drew.heap.size from hlp2_2)
  have hcp3_3 := cdw hcp3_2
  have hlp3_3 := (show _ < v2.drew.heap.size from hlp3_2)
  generalize v2.drew = v3 at hK3 hcf_3 hlf_3 hcm_3 hlm_3 hcm0_3 hlm0_3 hcm1_3 hlm1_3 hcm2_3 hlm2_3 hcp0_3 hlp0_3 hcp1_3 hlp1_3 hcp2_3 hlp2_3 hcp3_3 hlp3_3 ⊢
  clear hK2 hcf_2 hlf_2 hcm_2 hlm_2 hcm0_2 hlm0_2 hcm1_2 hlm1_2 hcm2_2 hlm2_2 hcp0_2 hlp0_2 hcp1_2 hlp1_2 hcp2_2 hlp2_2 hcp3_2 hlp3_2
  refine Ls.call rfl (by kernel_rfl) (by kernel_rfl) (fun _ => (cM v3).mono ?_)
  rintro e v4 ⟨rfl, hb4⟩
  have hK4 := bnx hK3 hb4 hK3.size
  have hcf_4 := hcf_3.below hb4 hlf_3
  have hlf_4 := Nat.lt_of_lt_of_le hlf_3 hb4.size
  have hcm_4 := hcm_3.below hb4 hlm_3
  have hlm_4 := Nat.lt_of_lt_of_le hlm_3 hb4.size
  have hcm0_4 := cell_bel hcm0_3 hb4 hlm0_3
  have hlm0_4 := Nat.lt_of_lt_of_le hlm0_3 hb4.size
  have hcm1_4 := cell_bel hcm1_3 hb4 hlm1_3
  have hlm1_4 := Nat.lt_of_lt_of_le hlm1_3 hb4.size
  have hcm2_4 := cell_bel hcm2_3 hb4 hlm2_3
  have hlm2_4 := Nat.lt_of_lt_of_le hlm2_3 hb4.size
  have hcp0_4 := cell_bel hcp0_3 hb4 hlp0_3
  have hlp0_4 := Nat.lt_of_lt_of_le hlp0_3 hb4.size
  have hcp1_4 := cell_bel hcp1_3 hb4 hlp1_3
  have hlp1_4 := Nat.lt_of_lt_of_le hlp1_3 hb4.size
  have hcp2_4 := cell_bel hcp2_3 hb4 hlp2_3
  have hlp2_4 := Nat.lt_of_lt_of_le hlp2_3 hb4.size
  have hcp3_4 := cell_bel hcp3_3 hb4 hlp3_3
  have hlp3_4 := Nat.lt_of_lt_of_le hlp3_3 hb4.size
  refine ⟨_, rfl, ⟨hcf_4, hcm_4, hcp0_4, hcp1_4, hcp2_4⟩, ?_⟩
  (try simp (config := {maxSteps := 2000000}) only [Act.put, List.getElem_toArray, List.getElem_cons_succ, List.getElem_cons_zero, List.setIfInBounds_toArray, List.set_cons_zero, List.set_cons_succ])
  clear hK3 hcf_3 hlf_3 hcm_3 hlm_3 hcm0_3 hlm0_3 hcm1_3 hlm1_3 hcm2_3 hlm2_3 hcp0_3 hlp0_3 hcp1_3 hlp1_3 hcp2_3 hlp2_3 hcp3_3 hlp3_3 hb4
  refine Ls.call rfl (by kernel_rfl) (by kernel_rfl) (fun _ => (cN v4).mono ?_)
  rintro e v5 ⟨rfl, hb5⟩
  have hK5 := bnx hK4 hb5 hK4.size
  have hcf_5 := hcf_4.below hb5 hlf_4
  have hlf_5 := Nat.lt_of_lt_of_le hlf_4 hb5.size
  have hcm_5 := hcm_4.below hb5 hlm_4
  have hlm_5 := Nat.lt_of_lt_of_le hlm_4 hb5.size
  have hcm0_5 := cell_bel hcm0_4 hb5 hlm0_4
  have hlm0_5 := Nat.lt_of_lt_of_le hlm0_4 hb5.size
  have hcm1_5 := cell_bel hcm1_4 hb5 hlm1_4
  have hlm1_5 := Nat.lt_of_lt_of_le hlm1_4 hb5.size
  have hcm2_5 := cell_bel hcm2_4 hb5 hlm2_4
  have hlm2_5 := Nat.lt_of_lt_of_le hlm2_4 hb5.size
  have hcp0_5 := cell_bel hcp0_4 hb5 hlp0_4
  have hlp0_5 := Nat.lt_of_lt_of_le hlp0_4 hb5.size
  have hcp1_5 := cell_bel hcp1_4 hb5 hlp1_4
  have hlp1_5 := Nat.lt_of_lt_of_le hlp1_4 hb5.size
  have hcp2_5 := cell_bel hcp2_4 hb5 hlp2_4
  have hlp2_5 := Nat.lt_of_lt_of_le hlp2_4 hb5.size
  have hcp3_5 := cell_bel hcp3_4 hb5 hlp3_4
  have hlp3_5 := Nat.lt_of_lt_of_le hlp3_4 hb5.size
  refine ⟨_, rfl, ⟨hcf_5, hcm_5, hcp0_5, hcp1_5, hcp2_5⟩, ?_⟩
  (try simp (config := {maxSteps := 2000000}) only [Act.put, List.getElem_toArray, List.getElem_cons_succ, List.getElem_cons_zero, List.setIfInBounds_toArray, List.set_cons_zero, List.set_cons_succ])
  clear hK4 hcf_4 hlf_4 hcm_4 hlm_4 hcm0_4 hlm0_4 hcm1_4 hlm1_4 hcm2_4 hlm2_4 hcp0_4 hlp0_4 hcp1_4 hlp1_4 hcp2_4 hlp2_4 hcp3_4 hlp3_4 hb5
  refine Ls.val (.bool true) rfl (fun _ _ _ h => h) (by kernel_rfl) (by intro w hw; go_simp; all_goals first | rfl | simp) ?_; (try simp (config := {maxSteps := 2000000}) only [Act.put, List.getElem_toArray, List.getElem_cons_succ, List.getElem_cons_zero, List.setIfInBounds_toArray, List.set_cons_zero, List.set_cons_succ])
  (refine Ls.val ?_ rfl (fun _ _ _ h => h) (by kernel_rfl) ?_ ?_; rotate_left 1; focus (intro w hw; go_simp; with_reducible rfl)); (try simp (config := {maxSteps := 2000000}) only [Act.put, List.getElem_toArray, List.getElem_cons_succ, List.getElem_cons_zero, List.setIfInBounds_toArray, List.set_cons_zero, List.set_cons_succ])
  refine Ls.val (.agg f.cs) rfl (fun _ _ _ h => h) (by kernel_rfl) (fun w hw => exec_load_row w rfl (by kernel_rfl) Tryd.underlying23 rfl (by kernel_rfl) hw.1) ?_; (try simp (config := {maxSteps := 2000000}) only [Act.put, List.getElem_toArray, List.getElem_cons_succ, List.getElem_cons_zero, List.setIfInBounds_toArray, List.set_cons_zero, List.set_cons_succ])
  refine Ls.val (.agg #[.slice Asc nsc csc, .slice Asl nsl csl, .slice Asd nd cd]) rfl (fun _ _ _ h => h) (by kernel_rfl) (fun w hw => exec_load_row w rfl (by kernel_rfl) Tryd.underlying39 rfl (by kernel_rfl) hw.2.1) ?_; (try simp (config := {maxSteps := 2000000}) only [Act.put, List.getElem_toArray, List.getElem_cons_succ, List.getElem_cons_zero, List.setIfInBounds_toArray, List.set_cons_zero, List.set_cons_succ])
  refine Ls.val (.agg f.cs) rfl (fun _ _ _ h => h) (by kernel_rfl) (fun w hw => exec_load_row w rfl (by kernel_rfl) Tryd.underlying23 rfl (by kernel_rfl) hw.1) ?_; (try simp (config := {maxSteps := 2000000}) only [Act.put, List.getElem_toArray, List.getElem_cons_succ, List.getElem_cons_zero, List.setIfInBounds_toArray, List.set_cons_zero, List.set_cons_succ])
  refine Ls.val (.agg #[.slice Asc nsc csc, .slice Asl nsl csl, .slice Asd nd cd]) rfl (fun _ _ _ h => h) (by kernel_rfl) (fun w hw => exec_load_row w rfl (by kernel_rfl) Tryd.underlying39 rfl (by kernel_rfl) hw.2.1) ?_; (try simp (config := {maxSteps := 2000000}) only [Act.put, List.getElem_toArray, List.getElem_cons_succ, List.getElem_cons_zero, List.setIfInBounds_toArray, List.set_cons_zero, List.set_cons_succ])
  refine Ls.call rfl (by kernel_rfl) (by kernel_rfl) (fun _ => (cP v5).mono ?_)
  rintro e v6 ⟨rfl, hb6⟩
  have hK6 := bnx hK5 hb6 hK5.size
  have hcf_6 := hcf_5.below hb6 hlf_5
  have hlf_6 := Nat.lt_of_lt_of_le hlf_5 hb6.size
  have hcm_6 := hcm_5.below hb6 hlm_5
  have hlm_6 := Nat.lt_of_lt_of_le hlm_5 hb6.size
  have hcm0_6 := cell_bel hcm0_5 hb6 hlm0_5
  have hlm0_6 := Nat.lt_of_lt_of_le hlm0_5 hb6.size
  have hcm1_6 := cell_bel hcm1_5 hb6 hlm1_5
  have hlm1_6 := Nat.lt_of_lt_of_le hlm1_5 hb6.size
  have hcm2_6 := cell_bel hcm2_5 hb6 hlm2_5
  have hlm2_6 := Nat.lt_of_lt_of_le hlm2_5 hb6.size
  have hcp0_6 := cell_bel hcp0_5 hb6 hlp0_5
  have hlp0_6 := Nat.lt_of_lt_of_le hlp0_5 hb6.size
  have hcp1_6 := cell_bel hcp1_5 hb6 hlp1_5
  have hlp1_6 := Nat.lt_of_lt_of_le hlp1_5 hb6.size
  have hcp2_6 := cell_bel hcp2_5 hb6 hlp2_5
  have hlp2_6 := Nat.lt_of_lt_of_le hlp2_5 hb6.size
  have hcp3_6 := cell_bel hcp3_5 hb6 hlp3_5
  have hlp3_6 := Nat.lt_of_lt_of_le hlp3_5 hb6.size
  refine ⟨_, rfl, ⟨hcf_6, hcm_6, hcp0_6, hcp1_6, hcp2_6⟩, ?_⟩
  (try simp (config := {maxSteps := 2000000}) only [Act.put, List.getElem_toArray, List.getElem_cons_succ, List.getElem_cons_zero, List.setIfInBounds_toArray, List.set_cons_zero, List.set_cons_succ])
  clear hK5 hcf_5 hlf_5 hcm_5 hlm_5 hcm0_5 hlm0_5 hcm1_5 hlm1_5 hcm2_5 hlm2_5 hcp0_5 hlp0_5 hcp1_5 hlp1_5 hcp2_5 hlp2_5 hcp3_5 hlp3_5 hb6
  refine Ls.call rfl (by kernel_rfl) (by kernel_rfl) (fun _ => (cQ v6).mono ?_)
  rintro e v7 ⟨rfl, hb7⟩
  have hK7 := bnx hK6 hb7 hK6.size
  have hcf_7 := hcf_6.below hb7 hlf_6
  have hlf_7 := Nat.lt_of_lt_of_le hlf_6 hb7.size
  have hcm_7 := hcm_6.below hb7 hlm_6
  have hlm_7 := Nat.lt_of_lt_of_le hlm_6 hb7.size
  have hcm0_7 := cell_bel hcm0_6 hb7 hlm0_6
  have hlm0_7 := Nat.lt_of_lt_of_le hlm0_6 hb7.size
  have hcm1_7 := cell_bel hcm1_6 hb7 hlm1_6
  have hlm1_7 := Nat.lt_of_lt_of_le hlm1_6 hb7.size
  have hcm2_7 := cell_bel hcm2_6 hb7 hlm2_6
  have hlm2_7 := Nat.lt_of_lt_of_le hlm2_6 hb7.size
  have hcp0_7 := cell_bel hcp0_6 hb7 hlp0_6
  have hlp0_7 := Nat.lt_of_lt_of_le hlp0_6 hb7.size
  have hcp1_7 := cell_bel hcp1_6 hb7 hlp1_6
  have hlp1_7 := Nat.lt_of_lt_of_le hlp1_6 hb7.size
  have hcp2_7 := cell_bel hcp2_6 hb7 hlp2_6
  have hlp2_7 := Nat.lt_of_lt_of_le hlp2_6 hb7.size
  have hcp3_7 := cell_bel hcp3_6 hb7 hlp3_6
  have hlp3_7 := Nat.lt_of_lt_of_le hlp3_6 hb7.size
  refine ⟨_, rfl, ⟨hcf_7, hcm_7, hcp0_7, hcp1_7, hcp2_7⟩, ?_⟩
  (try simp (config := {maxSteps := 2000000}) only [Act.put, List.getElem_toArray, List.getElem_cons_succ, List.getElem_cons_zero, List.setIfInBounds_toArray, List.set_cons_zero, List.set_cons_succ])
  clear hK6 hcf_6 hlf_6 hcm_6 hlm_6 hcm0_6 hlm0_6 hcm1_6 hlm1_6 hcm2_6 hlm2_6 hcp0_6 hlp0_6 hcp1_6 hlp1_6 hcp2_6 hlp2_6 hcp3_6 hlp3_6 hb7
  refine Ls.val (.bool true) rfl (fun _ _ _ h => h) (by kernel_rfl) (by intro w hw; go_simp; all_goals first | rfl | simp) ?_; (try simp (config := {maxSteps := 2000000}) only [Act.put, List.getElem_toArray, List.getElem_cons_succ, List.getElem_cons_zero, List.setIfInBounds_toArray, List.set_cons_zero, List.set_cons_succ])
  (refine Ls.val ?_ rfl (fun _ _ _ h => h) (by kernel_rfl) ?_ ?_; rotate_left 1; focus (intro w hw; go_simp; with_reducible rfl)); (try simp (config := {maxSteps := 2000000}) only [Act.put, List.getElem_toArray, List.getElem_cons_succ, List.getElem_cons_zero, List.setIfInBounds_toArray, List.set_cons_zero, List.set_cons_succ])
  (refine Ls.val ?_ rfl (fun _ _ _ h => h) (by kernel_rfl) ?_ ?_; rotate_left 1; focus (intro w hw; go_simp; with_reducible rfl)); (try simp (config := {maxSteps := 2000000}) only [Act.put, List.getElem_toArray, List.getElem_cons_succ, List.getElem_cons_zero, List.setIfInBounds_toArray, List.set_cons_zero, List.set_cons_succ])
  refine Ls.val (.agg f.cs) rfl (fun _ _ _ h => h) (by kernel_rfl) (fun w hw => exec_load_row w rfl (by kernel_rfl) Tryd.underlying23 rfl (by kernel_rfl) hw.1) ?_; (try simp (config := {maxSteps := 2000000}) only [Act.put, List.getElem_toArray, List.getElem_cons_succ, List.getElem_cons_zero, List.setIfInBounds_toArray, List.set_cons_zero, List.set_cons_succ])
  (refine Ls.val ?_ rfl (fun _ _ _ h => h) (by kernel_rfl) ?_ ?_; rotate_left 1; focus (intro w hw; go_simp; with_reducible rfl)); (try simp (config := {maxSteps := 2000000}) only [Act.put, List.getElem_toArray, List.getElem_cons_succ, List.getElem_cons_zero, List.setIfInBounds_toArray, List.set_cons_zero, List.set_cons_succ])
  (refine Ls.val ?_ rfl (fun _ _ _ h => h) (by kernel_rfl) ?_ ?_; rotate_left 1; focus (intro w hw; have hcell := hw.2.2.2.2; go_simp; with_reducible rfl)); (try simp (config := {maxSteps := 2000000}) only [Act.put, List.getElem_toArray, List.getElem_cons_succ, List.getElem_cons_zero, List.setIfInBounds_toArray, List.set_cons_zero, List.set_cons_succ])
  refine Ls.val (.agg f.cs) rfl (fun _ _ _ h => h) (by kernel_rfl) (fun w hw => exec_load_row w rfl (by kernel_rfl) Tryd.underlying23 rfl (by kernel_rfl) hw.1) ?_; (try simp (config := {maxSteps := 2000000}) only [Act.put, List.getElem_toArray, List.getElem_cons_succ, List.getElem_cons_zero, List.setIfInBounds_toArray, List.set_cons_zero, List.set_cons_succ])
  (refine Ls.val ?_ rfl (fun _ _ _ h => h) (by kernel_rfl) ?_ ?_; rotate_left 1; focus (intro w hw; go_simp; with_reducible rfl)); (try simp (config := {maxSteps := 2000000}) only [Act.put, List.getElem_toArray, List.getElem_cons_succ, List.getElem_cons_zero, List.setIfInBounds_toArray, List.set_cons_zero, List.set_cons_succ])
  (refine Ls.val ?_ rfl (fun _ _ _ h => h) (by kernel_rfl) ?_ ?_; rotate_left 1; focus (intro w hw; have hcell := hw.2.2.2.2; go_simp; with_reducible rfl)); (try simp (config := {maxSteps := 2000000}) only [Act.put, List.getElem_toArray, List.getElem_cons_succ, List.getElem_cons_zero, List.setIfInBounds_toArray, List.set_cons_zero, List.set_cons_succ])
  refine Ls.call rfl (by kernel_rfl) (by kernel_rfl) (fun _ => (digits_o f bt Ab L cb nD v7 hf (hb.bel hK7) hnb hcb (by omega) hbb hnD).mono ?_)
  rintro e v8 ⟨A8, c8, rfl, hF8, hh8, hb8⟩
  have hK8 := bnx hK7 hb8 hK7.size
  have hcf_8 := hcf_7.below hb8 hlf_7
  have hlf_8 := Nat.lt_of_lt_of_le hlf_7 hb8.size
  have hcm_8 := hcm_7.below hb8 hlm_7
  have hlm_8 := Nat.lt_of_lt_of_le hlm_7 hb8.size
  have hcm0_8 := cell_bel hcm0_7 hb8 hlm0_7
  have hlm0_8 := Nat.lt_of_lt_of_le hlm0_7 hb8.size
  have hcm1_8 := cell_bel hcm1_7 hb8 hlm1_7
  have hlm1_8 := Nat.lt_of_lt_of_le hlm1_7 hb8.size
  have hcm2_8 := cell_bel hcm2_7 hb8 hlm2_7
  have hlm2_8 := Nat.lt_of_lt_of_le hlm2_7 hb8.size
  have hcp0_8 := cell_bel hcp0_7 hb8 hlp0_7
  have hlp0_8 := Nat.lt_of_lt_of_le hlp0_7 hb8.size
  have hcp1_8 := cell_bel hcp1_7 hb8 hlp1_7
  have hlp1_8 := Nat.lt_of_lt_of_le hlp1_7 hb8.size
  have hcp2_8 := cell_bel hcp2_7 hb8 hlp2_7
  have hlp2_8 := Nat.lt_of_lt_of_le hlp2_7 hb8.size
  have hcp3_8 := cell_bel hcp3_7 hb8 hlp3_7
  have hlp3_8 := Nat.lt_of_lt_of_le hlp3_7 hb8.size
  refine ⟨_, rfl, ⟨hcf_8, hcm_8, hcp0_8, hcp1_8, hcp2_8⟩, ?_⟩
  (try simp (config := {maxSteps := 2000000}) only [Act.put, List.getElem_toArray, List.getElem_cons_succ, List.getElem_cons_zero, List.setIfInBounds_toArray, List.set_cons_zero, List.set_cons_succ])
  have hRX := hF8
  have hBX_8 := Below.refl v8.heap.size v8
  clear hK7 hcf_7 hlf_7 hcm_7 hlm_7 hcm0_7 hlm0_7 hcm1_7 hlm1_7 hcm2_7 hlm2_7 hcp0_7 hlp0_7 hcp1_7 hlp1_7 hcp2_7 hlp2_7 hcp3_7 hlp3_7 hb8 hF8 hh8
  refine Ls.call rfl (by kernel_rfl) (by kernel_rfl) (fun _ => (rdigits_o f bt Ab L cb nD v8 hf (hb.bel hK8) hnb hcb (by omega) hbb hnD).mono ?_)
  rintro e v9 ⟨A9, c9, rfl, hF9, hh9, hb9⟩
  have hK9 := bnx hK8 hb9 hK8.size
  have hBX_9 := bnx hBX_8 hb9 hBX_8.size
  have hcf_9 := hcf_8.below hb9 hlf_8
  have hlf_9 := Nat.lt_of_lt_of_le hlf_8 hb9.size
  have hcm_9 := hcm_8.below hb9 hlm_8
  have hlm_9 := Nat.lt_of_lt_of_le hlm_8 hb9.size
  have hcm0_9 := cell_bel hcm0_8 hb9 hlm0_8
  have hlm0_9 := Nat.lt_of_lt_of_le hlm0_8 hb9.size
  have hcm1_9 := cell_bel hcm1_8 hb9 hlm1_8
  have hlm1_9 := Nat.lt_of_lt_of_le hlm1_8 hb9.size
  have hcm2_9 := cell_bel hcm2_8 hb9 hlm2_8
  have hlm2_9 := Nat.lt_of_lt_of_le hlm2_8 hb9.size
  have hcp0_9 := cell_bel hcp0_8 hb9 hlp0_8
  have hlp0_9 := Nat.lt_of_lt_of_le hlp0_8 hb9.size
  have hcp1_9 := cell_bel hcp1_8 hb9 hlp1_8
  have hlp1_9 := Nat.lt_of_lt_of_le hlp1_8 hb9.size
  have hcp2_9 := cell_bel hcp2_8 hb9 hlp2_8
  have hlp2_9 := Nat.lt_of_lt_of_le hlp2_8 hb9.size
  have hcp3_9 := cell_bel hcp3_8 hb9 hlp3_8
  have hlp3_9 := Nat.lt_of_lt_of_le hlp3_8 hb9.size
  refine ⟨_, rfl, ⟨hcf_9, hcm_9, hcp0_9, hcp1_9, hcp2_9⟩, ?_⟩
  (try simp (config := {maxSteps := 2000000}) only [Act.put, List.getElem_toArray, List.getElem_cons_succ, List.getElem_cons_zero, List.setIfInBounds_toArray, List.set_cons_zero, List.set_cons_succ])
  have hRZ := hF9
  have hBZ_9 := Below.refl v9.heap.size v9
  clear hK8 hBX_8 hcf_8 hlf_8 hcm_8 hlm_8 hcm0_8 hlm0_8 hcm1_8 hlm1_8 hcm2_8 hlm2_8 hcp0_8 hlp0_8 hcp1_8 hlp1_8 hcp2_8 hlp2_8 hcp3_8 hlp3_8 hb9 hF9 hh9
  refine Ls.call rfl (by kernel_rfl) (by kernel_rfl) (fun _ => (words_to v9 A8 A9 (digO f bt) (digO f bt) nD nD c8 c9 true (hRX.bel hBX_9) (hRZ.bel hBZ_9) hnD hnD hD9 (decide_eq_true rfl)).mono ?_)
  rintro e v10 ⟨rfl, hb10⟩
  have hK10 := bnx hK9 hb10 hK9.size
  have hBX_10 := bnx hBX_9 hb10 hBX_9.size
  have hBZ_10 := bnx hBZ_9 hb10 hBZ_9.size
  have hcf_10 := hcf_9.below hb10 hlf_9
  have hlf_10 := Nat.lt_of_lt_of_le hlf_9 hb10.size
  have hcm_10 := hcm_9.below hb10 hlm_9
  have hlm_10 := Nat.lt_of_lt_of_le hlm_9 hb10.size
  have hcm0_10 := cell_bel hcm0_9 hb10 hlm0_9
  have hlm0_10 := Nat.lt_of_lt_of_le hlm0_9 hb10.size
  have hcm1_10 := cell_bel hcm1_9 hb10 hlm1_9
  have hlm1_10 := Nat.lt_of_lt_of_le hlm1_9 hb10.size
  have hcm2_10 := cell_bel hcm2_9 hb10 hlm2_9
  have hlm2_10 := Nat.lt_of_lt_of_le hlm2_9 hb10.size
  have hcp0_10 := cell_bel hcp0_9 hb10 hlp0_9
  have hlp0_10 := Nat.lt_of_lt_of_le hlp0_9 hb10.size
  have hcp1_10 := cell_bel hcp1_9 hb10 hlp1_9
  have hlp1_10 := Nat.lt_of_lt_of_le hlp1_9 hb10.size
  have hcp2_10 := cell_bel hcp2_9 hb10 hlp2_9
  have hlp2_10 := Nat.lt_of_lt_of_le hlp2_9 hb10.size
  have hcp3_10 := cell_bel hcp3_9 hb10 hlp3_9
  have hlp3_10 := Nat.lt_of_lt_of_le hlp3_9 hb10.size
  refine ⟨_, rfl, ⟨hcf_10, hcm_10, hcp0_10, hcp1_10, hcp2_10⟩, ?_⟩
  (try simp (config := {maxSteps := 2000000}) only [Act.put, List.getElem_toArray, List.getElem_cons_succ, List.getElem_cons_zero, List.setIfInBounds_toArray, List.set_cons_zero, List.set_cons_succ])
  clear hK9 hBX_9 hBZ_9 hcf_9 hlf_9 hcm_9 hlm_9 hcm0_9 hlm0_9 hcm1_9 hlm1_9 hcm2_9 hlm2_9 hcp0_9 hlp0_9 hcp1_9 hlp1_9 hcp2_9 hlp2_9 hcp3_9 hlp3_9 hb10
  clear hRX hRZ hBX_10 hBZ_10
  (refine Ls.val ?_ rfl (fun _ _ _ h => h) (by kernel_rfl) ?_ ?_; rotate_left 1; focus (intro w hw; go_simp; with_reducible rfl)); (try simp (config := {maxSteps := 2000000}) only [Act.put, List.getElem_toArray, List.getElem_cons_succ, List.getElem_cons_zero, List.setIfInBounds_toArray, List.set_cons_zero, List.set_cons_succ])
  (refine Ls.val ?_ rfl (fun _ _ _ h => h) (by kernel_rfl) ?_ ?_; rotate_left 1; focus (intro w hw; go_simp; with_reducible rfl)); (try simp (config := {maxSteps := 2000000}) only [Act.put, List.getElem_toArray, List.getElem_cons_succ, List.getElem_cons_zero, List.setIfInBounds_toArray, List.set_cons_zero, List.set_cons_succ])
  refine Ls.val (.agg f.cs) rfl (fun _ _ _ h => h) (by kernel_rfl) (fun w hw => exec_load_row w rfl (by kernel_rfl) Tryd.underlying23 rfl (by kernel_rfl) hw.1) ?_; (try simp (config := {maxSteps := 2000000}) only [Act.put, List.getElem_toArray, List.getElem_cons_succ, List.getElem_cons_zero, List.setIfInBounds_toArray, List.set_cons_zero, List.set_cons_succ])
  refine Ls.val (.agg #[.slice Asc nsc csc, .slice Asl nsl csl, .slice Asd nd cd]) rfl (fun _ _ _ h => h) (by kernel_rfl) (fun w hw => exec_load_row w rfl (by kernel_rfl) Tryd.underlying39 rfl (by kernel_rfl) hw.2.1) ?_; (try simp (config := {maxSteps := 2000000}) only [Act.put, List.getElem_toArray, List.getElem_cons_succ, List.getElem_cons_zero, List.setIfInBounds_toArray, List.set_cons_zero, List.set_cons_succ])
  (refine Ls.val ?_ rfl (fun _ _ _ h => h) (by kernel_rfl) ?_ ?_; rotate_left 1; focus (intro w hw; go_simp; with_reducible rfl)); (try simp (config := {maxSteps := 2000000}) only [Act.put, List.getElem_toArray, List.getElem_cons_succ, List.getElem_cons_zero, List.setIfInBounds_toArray, List.set_cons_zero, List.set_cons_succ])
  (refine Ls.val ?_ rfl (fun _ _ _ h => h) (by kernel_rfl) ?_ ?_; rotate_left 1; focus (intro w hw; have hcell := hw.2.2.1; go_simp; with_reducible rfl)); (try simp (config := {maxSteps := 2000000}) only [Act.put, List.getElem_toArray, List.getElem_cons_succ, List.getElem_cons_zero, List.setIfInBounds_toArray, List.set_cons_zero, List.set_cons_succ])
  (refine Ls.val ?_ rfl (fun _ _ _ h => h) (by kernel_rfl) ?_ ?_; rotate_left 1; focus (intro w hw; go_simp; with_reducible rfl)); (try simp (config := {maxSteps := 2000000}) only [Act.put, List.getElem_toArray, List.getElem_cons_succ, List.getElem_cons_zero, List.setIfInBounds_toArray, List.set_cons_zero, List.set_cons_succ])
  (refine Ls.val ?_ rfl (fun _ _ _ h => h) (by kernel_rfl) ?_ ?_; rotate_left 1; focus (intro w hw; have hcell := hw.2.2.2.1; go_simp; with_reducible rfl)); (try simp (config := {maxSteps := 2000000}) only [Act.put, List.getElem_toArray, List.getElem_cons_succ, List.getElem_cons_zero, List.setIfInBounds_toArray, List.set_cons_zero, List.set_cons_succ])
  refine Ls.val (.agg f.cs) rfl (fun _ _ _ h => h) (by kernel_rfl) (fun w hw => exec_load_row w rfl (by kernel_rfl) Tryd.underlying23 rfl (by kernel_rfl) hw.1) ?_; (try simp (config := {maxSteps := 2000000}) only [Act.put, List.getElem_toArray, List.getElem_cons_succ, List.getElem_cons_zero, List.setIfInBounds_toArray, List.set_cons_zero, List.set_cons_succ])
  refine Ls.val (.agg #[.slice Asc nsc csc, .slice Asl nsl csl, .slice Asd nd cd]) rfl (fun _ _ _ h => h) (by kernel_rfl) (fun w hw => exec_load_row w rfl (by kernel_rfl) Tryd.underlying39 rfl (by kernel_rfl) hw.2.1) ?_; (try simp (config := {maxSteps := 2000000}) only [Act.put, List.getElem_toArray, List.getElem_cons_succ, List.getElem_cons_zero, List.setIfInBounds_toArray, List.set_cons_zero, List.set_cons_succ])
  (refine Ls.val ?_ rfl (fun _ _ _ h => h) (by kernel_rfl) ?_ ?_; rotate_left 1; focus (intro w hw; go_simp; with_reducible rfl)); (try simp (config := {maxSteps := 2000000}) only [Act.put, List.getElem_toArray, List.getElem_cons_succ, List.getElem_cons_zero, List.setIfInBounds_toArray, List.set_cons_zero, List.set_cons_succ])
  (refine Ls.val ?_ rfl (fun _ _ _ h => h) (by kernel_rfl) ?_ ?_; rotate_left 1; focus (intro w hw; have hcell := hw.2.2.1; go_simp; with_reducible rfl)); (try simp (config := {maxSteps := 2000000}) only [Act.put, List.getElem_toArray, List.getElem_cons_succ, List.getElem_cons_zero, List.setIfInBounds_toArray, List.set_cons_zero, List.set_cons_succ])
  (refine Ls.val ?_ rfl (fun _ _ _ h => h) (by kernel_rfl) ?_ ?_; rotate_left 1; focus (intro w hw; go_simp; with_reducible rfl)); (try simp (config := {maxSteps := 2000000}) only [Act.put, List.getElem_toArray, List.getElem_cons_succ, List.getElem_cons_zero, List.setIfInBounds_toArray, List.set_cons_zero, List.set_cons_succ])
  (refine Ls.val ?_ rfl (fun _ _ _ h => h) (by kernel_rfl) ?_ ?_; rotate_left 1; focus (intro w hw; have hcell := hw.2.2.2.1; go_simp; with_reducible rfl)); (try simp (config := {maxSteps := 2000000}) only [Act.put, List.getElem_toArray, List.getElem_cons_succ, List.getElem_cons_zero, List.setIfInBounds_toArray, List.set_cons_zero, List.set_cons_succ])
  refine Ls.call rfl (by kernel_rfl) (by kernel_rfl) (fun _ => (whole_o f sec sd Asc Asl Asd nsc csc nsl csl nd cd nW tree q v10 hf hU hq (hsd.bel hK10) hnsd hcsd hbsd (hsc.bel hK10) hnsc hcsc hbsc (hT.bel hK10) hnW).mono ?_)
  rintro e v11 ⟨A11, c11, rfl, hF11, hh11, hb11⟩
  have hK11 := bnx hK10 hb11 hK10.size
  have hcf_11 := hcf_10.below hb11 hlf_10
  have hlf_11 := Nat.lt_of_lt_of_le hlf_10 hb11.size
  have hcm_11 := hcm_10.below hb11 hlm_10
  have hlm_11 := Nat.lt_of_lt_of_le hlm_10 hb11.size
  have hcm0_11 := cell_bel hcm0_10 hb11 hlm0_10
  have hlm0_11 := Nat.lt_of_lt_of_le hlm0_10 hb11.size
  have hcm1_11 := cell_bel hcm1_10 hb11 hlm1_10
  have hlm1_11 := Nat.lt_of_lt_of_le hlm1_10 hb11.size
  have hcm2_11 := cell_bel hcm2_10 hb11 hlm2_10
  have hlm2_11 := Nat.lt_of_lt_of_le hlm2_10 hb11.size
  have hcp0_11 := cell_bel hcp0_10 hb11 hlp0_10
  have hlp0_11 := Nat.lt_of_lt_of_le hlp0_10 hb11.size
  have hcp1_11 := cell_bel hcp1_10 hb11 hlp1_10
  have hlp1_11 := Nat.lt_of_lt_of_le hlp1_10 hb11.size
  have hcp2_11 := cell_bel hcp2_10 hb11 hlp2_10
  have hlp2_11 := Nat.lt_of_lt_of_le hlp2_10 hb11.size
  have hcp3_11 := cell_bel hcp3_10 hb11 hlp3_10
  have hlp3_11 := Nat.lt_of_lt_of_le hlp3_10 hb11.size
  refine ⟨_, rfl, ⟨hcf_11, hcm_11, hcp0_11, hcp1_11, hcp2_11⟩, ?_⟩
  (try simp (config := {maxSteps := 2000000}) only [Act.put, List.getElem_toArray, List.getElem_cons_succ, List.getElem_cons_zero, List.setIfInBounds_toArray, List.set_cons_zero, List.set_cons_succ])
  have hRX := hF11
  have hBX_11 := Below.refl v11.heap.size v11
  clear hK10 hcf_10 hlf_10 hcm_10 hlm_10 hcm0_10 hlm0_10 hcm1_10 hlm1_10 hcm2_10 hlm2_10 hcp0_10 hlp0_10 hcp1_10 hlp1_10 hcp2_10 hlp2_10 hcp3_10 hlp3_10 hb11 hF11 hh11
  refine Ls.call rfl (by kernel_rfl) (by kernel_rfl) (fun _ => (rwhole_o f sec sd Asc Asl Asd nsc csc nsl csl nd cd nW tree q v11 hf hU hq (hsd.bel hK11) hnsd hcsd hbsd (hsc.bel hK11) hnsc hcsc hbsc (hT.bel hK11) hnW).mono ?_)
  rintro e v12 ⟨A12, c12, rfl, hF12, hh12, hb12⟩
  have hK12 := bnx hK11 hb12 hK11.size
  have hBX_12 := bnx hBX_11 hb12 hBX_11.size
  have hcf_12 := hcf_11.below hb12 hlf_11
  have hlf_12 := Nat.lt_of_lt_of_le hlf_11 hb12.size
  have hcm_12 := hcm_11.below hb12 hlm_11
  have hlm_12 := Nat.lt_of_lt_of_le hlm_11 hb12.size
  have hcm0_12 := cell_bel hcm0_11 hb12 hlm0_11
  have hlm0_12 := Nat.lt_of_lt_of_le hlm0_11 hb12.size
  have hcm1_12 := cell_bel hcm1_11 hb12 hlm1_11
  have hlm1_12 := Nat.lt_of_lt_of_le hlm1_11 hb12.size
  have hcm2_12 := cell_bel hcm2_11 hb12 hlm2_11
  have hlm2_12 := Nat.lt_of_lt_of_le hlm2_11 hb12.size
  have hcp0_12 := cell_bel hcp0_11 hb12 hlp0_11
  have hlp0_12 := Nat.lt_of_lt_of_le hlp0_11 hb12.size
  have hcp1_12 := cell_bel hcp1_11 hb12 hlp1_11
  have hlp1_12 := Nat.lt_of_lt_of_le hlp1_11 hb12.size
  have hcp2_12 := cell_bel hcp2_11 hb12 hlp2_11
  have hlp2_12 := Nat.lt_of_lt_of_le hlp2_11 hb12.size
  have hcp3_12 := cell_bel hcp3_11 hb12 hlp3_11
  have hlp3_12 := Nat.lt_of_lt_of_le hlp3_11 hb12.size
  refine ⟨_, rfl, ⟨hcf_12, hcm_12, hcp0_12, hcp1_12, hcp2_12⟩, ?_⟩
  (try simp (config := {maxSteps := 2000000}) only [Act.put, List.getElem_toArray, List.getElem_cons_succ, List.getElem_cons_zero, List.setIfInBounds_toArray, List.set_cons_zero, List.set_cons_succ])
  have hRZ := hF12
  have hBZ_12 := Below.refl v12.heap.size v12
  clear hK11 hBX_11 hcf_11 hlf_11 hcm_11 hlm_11 hcm0_11 hlm0_11 hcm1_11 hlm1_11 hcm2_11 hlm2_11 hcp0_11 hlp0_11 hcp1_11 hlp1_11 hcp2_11 hlp2_11 hcp3_11 hlp3_11 hb12 hF12 hh12
  refine Ls.call rfl (by kernel_rfl) (by kernel_rfl) (fun _ => (same_is_b v12 A11 A12 (wholeO f nsl sd sec tree q) nW c11 c12 (hRX.bel hBX_12) (hRZ.bel hBZ_12) hnW hW9).mono ?_)
  rintro e v13 ⟨rfl, hb13⟩
  have hK13 := bnx hK12 hb13 hK12.size
  have hBX_13 := bnx hBX_12 hb13 hBX_12.size
  have hBZ_13 := bnx hBZ_12 hb13 hBZ_12.size
  have hcf_13 := hcf_12.below hb13 hlf_12
  have hlf_13 := Nat.lt_of_lt_of_le hlf_12 hb13.size
  have hcm_13 := hcm_12.below hb13 hlm_12
  have hlm_13 := Nat.lt_of_lt_of_le hlm_12 hb13.size
  have hcm0_13 := cell_bel hcm0_12 hb13 hlm0_12
  have hlm0_13 := Nat.lt_of_lt_of_le hlm0_12 hb13.size
  have hcm1_13 := cell_bel hcm1_12 hb13 hlm1_12
  have hlm1_13 := Nat.lt_of_lt_of_le hlm1_12 hb13.size
  have hcm2_13 := cell_bel hcm2_12 hb13 hlm2_12
  have hlm2_13 := Nat.lt_of_lt_of_le hlm2_12 hb13.size
  have hcp0_13 := cell_bel hcp0_12 hb13 hlp0_12
  have hlp0_13 := Nat.lt_of_lt_of_le hlp0_12 hb13.size
  have hcp1_13 := cell_bel hcp1_12 hb13 hlp1_12
  have hlp1_13 := Nat.lt_of_lt_of_le hlp1_12 hb13.size
  have hcp2_13 := cell_bel hcp2_12 hb13 hlp2_12
  have hlp2_13 := Nat.lt_of_lt_of_le hlp2_12 hb13.size
  have hcp3_13 := cell_bel hcp3_12 hb13 hlp3_12
  have hlp3_13 := Nat.lt_of_lt_of_le hlp3_12 hb13.size
  refine ⟨_, rfl, ⟨hcf_13, hcm_13, hcp0_13, hcp1_13, hcp2_13⟩, ?_⟩
  (try simp (config := {maxSteps := 2000000}) only [Act.put, List.getElem_toArray, List.getElem_cons_succ, List.getElem_cons_zero, List.setIfInBounds_toArray, List.set_cons_zero, List.set_cons_succ])
  clear hK12 hBX_12 hBZ_12 hcf_12 hlf_12 hcm_12 hlm_12 hcm0_12 hlm0_12 hcm1_12 hlm1_12 hcm2_12 hlm2_12 hcp0_12 hlp0_12 hcp1_12 hlp1_12 hcp2_12 hlp2_12 hcp3_12 hlp3_12 hb13
  clear hRX hRZ hBX_13 hBZ_13
  (refine Ls.val ?_ rfl (fun _ _ _ h => h) (by kernel_rfl) ?_ ?_; rotate_left 1; focus (intro w hw; go_simp; with_reducible rfl)); (try simp (config := {maxSteps := 2000000}) only [Act.put, List.getElem_toArray, List.getElem_cons_succ, List.getElem_cons_zero, List.setIfInBounds_toArray, List.set_cons_zero, List.set_cons_succ])
  (refine Ls.val ?_ rfl (fun _ _ _ h => h) (by kernel_rfl) ?_ ?_; rotate_left 1; focus (intro w hw; go_simp; with_reducible rfl)); (try simp (config := {maxSteps := 2000000}) only [Act.put, List.getElem_toArray, List.getElem_cons_succ, List.getElem_cons_zero, List.setIfInBounds_toArray, List.set_cons_zero, List.set_cons_succ])
  refine Ls.val (.agg f.cs) rfl (fun _ _ _ h => h) (by kernel_rfl) (fun w hw => exec_load_row w rfl (by kernel_rfl) Tryd.underlying23 rfl (by kernel_rfl) hw.1) ?_; (try simp (config := {maxSteps := 2000000}) only [Act.put, List.getElem_toArray, List.getElem_cons_succ, List.getElem_cons_zero, List.setIfInBounds_toArray, List.set_cons_zero, List.set_cons_succ])
  refine Ls.val (.agg #[.slice Asc nsc csc, .slice Asl nsl csl, .slice Asd nd cd]) rfl (fun _ _ _ h => h) (by kernel_rfl) (fun w hw => exec_load_row w rfl (by kernel_rfl) Tryd.underlying39 rfl (by kernel_rfl) hw.2.1) ?_; (try simp (config := {maxSteps := 2000000}) only [Act.put, List.getElem_toArray, List.getElem_cons_succ, List.getElem_cons_zero, List.setIfInBounds_toArray, List.set_cons_zero, List.set_cons_succ])
  (refine Ls.val ?_ rfl (fun _ _ _ h => h) (by kernel_rfl) ?_ ?_; rotate_left 1; focus (intro w hw; go_simp; with_reducible rfl)); (try simp (config := {maxSteps := 2000000}) only [Act.put, List.getElem_toArray, List.getElem_cons_succ, List.getElem_cons_zero, List.setIfInBounds_toArray, List.set_cons_zero, List.set_cons_succ])
  (refine Ls.val ?_ rfl (fun _ _ _ h => h) (by kernel_rfl) ?_ ?_; rotate_left 1; focus (intro w hw; have hcell := hw.2.2.1; go_simp; with_reducible rfl)); (try simp (config := {maxSteps := 2000000}) only [Act.put, List.getElem_toArray, List.getElem_cons_succ, List.getElem_cons_zero, List.setIfInBounds_toArray, List.set_cons_zero, List.set_cons_succ])
  (refine Ls.val ?_ rfl (fun _ _ _ h => h) (by kernel_rfl) ?_ ?_; rotate_left 1; focus (intro w hw; go_simp; with_reducible rfl)); (try simp (config := {maxSteps := 2000000}) only [Act.put, List.getElem_toArray, List.getElem_cons_succ, List.getElem_cons_zero, List.setIfInBounds_toArray, List.set_cons_zero, List.set_cons_succ])
  (refine Ls.val ?_ rfl (fun _ _ _ h => h) (by kernel_rfl) ?_ ?_; rotate_left 1; focus (intro w hw; have hcell := hw.2.2.2.1; go_simp; with_reducible rfl)); (try simp (config := {maxSteps := 2000000}) only [Act.put, List.getElem_toArray, List.getElem_cons_succ, List.getElem_cons_zero, List.setIfInBounds_toArray, List.set_cons_zero, List.set_cons_succ])
  (refine Ls.val ?_ rfl (fun _ _ _ h => h) (by kernel_rfl) ?_ ?_; rotate_left 1; focus (intro w hw; go_simp; with_reducible rfl)); (try simp (config := {maxSteps := 2000000}) only [Act.put, List.getElem_toArray, List.getElem_cons_succ, List.getElem_cons_zero, List.setIfInBounds_toArray, List.set_cons_zero, List.set_cons_succ])
  (refine Ls.val ?_ rfl (fun _ _ _ h => h) (by kernel_rfl) ?_ ?_; rotate_left 1; focus (intro w hw; have hcell := hw.2.2.2.2; go_simp; with_reducible rfl)); (try simp (config := {maxSteps := 2000000}) only [Act.put, List.getElem_toArray, List.getElem_cons_succ, List.getElem_cons_zero, List.setIfInBounds_toArray, List.set_cons_zero, List.set_cons_succ])
  refine Ls.val (.agg f.cs) rfl (fun _ _ _ h => h) (by kernel_rfl) (fun w hw => exec_load_row w rfl (by kernel_rfl) Tryd.underlying23 rfl (by kernel_rfl) hw.1) ?_; (try simp (config := {maxSteps := 2000000}) only [Act.put, List.getElem_toArray, List.getElem_cons_succ, List.getElem_cons_zero, List.setIfInBounds_toArray, List.set_cons_zero, List.set_cons_succ])
  refine Ls.val (.agg #[.slice Asc nsc csc, .slice Asl nsl csl, .slice Asd nd cd]) rfl (fun _ _ _ h => h) (by kernel_rfl) (fun w hw => exec_load_row w rfl (by kernel_rfl) Tryd.underlying39 rfl (by kernel_rfl) hw.2.1) ?_; (try simp (config := {maxSteps := 2000000}) only [Act.put, List.getElem_toArray, List.getElem_cons_succ, List.getElem_cons_zero, List.setIfInBounds_toArray, List.set_cons_zero, List.set_cons_succ])
  (refine Ls.val ?_ rfl (fun _ _ _ h => h) (by kernel_rfl) ?_ ?_; rotate_left 1; focus (intro w hw; go_simp; with_reducible rfl)); (try simp (config := {maxSteps := 2000000}) only [Act.put, List.getElem_toArray, List.getElem_cons_succ, List.getElem_cons_zero, List.setIfInBounds_toArray, List.set_cons_zero, List.set_cons_succ])
  (refine Ls.val ?_ rfl (fun _ _ _ h => h) (by kernel_rfl) ?_ ?_; rotate_left 1; focus (intro w hw; have hcell := hw.2.2.1; go_simp; with_reducible rfl)); (try simp (config := {maxSteps := 2000000}) only [Act.put, List.getElem_toArray, List.getElem_cons_succ, List.getElem_cons_zero, List.setIfInBounds_toArray, List.set_cons_zero, List.set_cons_succ])
  (refine Ls.val ?_ rfl (fun _ _ _ h => h) (by kernel_rfl) ?_ ?_; rotate_left 1; focus (intro w hw; go_simp; with_reducible rfl)); (try simp (config := {maxSteps := 2000000}) only [Act.put, List.getElem_toArray, List.getElem_cons_succ, List.getElem_cons_zero, List.setIfInBounds_toArray, List.set_cons_zero, List.set_cons_succ])
  (refine Ls.val ?_ rfl (fun _ _ _ h => h) (by kernel_rfl) ?_ ?_; rotate_left 1; focus (intro w hw; have hcell := hw.2.2.2.1; go_simp; with_reducible rfl)); (try simp (config := {maxSteps := 2000000}) only [Act.put, List.getElem_toArray, List.getElem_cons_succ, List.getElem_cons_zero, List.setIfInBounds_toArray, List.set_cons_zero, List.set_cons_succ])
  (refine Ls.val ?_ rfl (fun _ _ _ h => h) (by kernel_rfl) ?_ ?_; rotate_left 1; focus (intro w hw; go_simp; with_reducible rfl)); (try simp (config := {maxSteps := 2000000}) only [Act.put, List.getElem_toArray, List.getElem_cons_succ, List.getElem_cons_zero, List.setIfInBounds_toArray, List.set_cons_zero, List.set_cons_succ])
  (refine Ls.val ?_ rfl (fun _ _ _ h => h) (by kernel_rfl) ?_ ?_; rotate_left 1; focus (intro w hw; have hcell := hw.2.2.2.2; go_simp; with_reducible rfl)); (try simp (config := {maxSteps := 2000000}) only [Act.put, List.getElem_toArray, List.getElem_cons_succ, List.getElem_cons_zero, List.setIfInBounds_toArray, List.set_cons_zero, List.set_cons_succ])
  refine Ls.call rfl (by kernel_rfl) (by kernel_rfl) (fun _ => (tell_o f sec sd bt Asc Asl Asd Ab nsc csc nsl csl nd cd L cb nT tree q v13 hf hU hq (hsd.bel hK13) hnsd hcsd hbsd (hsc.bel hK13) hnsc hcsc hbsc (hb.bel hK13) hnb hcb (by omega) hbb (hT.bel hK13) hnT).mono ?_)
  rintro e v14 ⟨A14, c14, rfl, hF14, hh14, hb14⟩
  have hK14 := bnx hK13 hb14 hK13.size
  have hcf_14 := hcf_13.below hb14 hlf_13
  have hlf_14 := Nat.lt_of_lt_of_le hlf_13 hb14.size
  have hcm_14 := hcm_13.below hb14 hlm_13
  have hlm_14 := Nat.lt_of_lt_of_le hlm_13 hb14.size
  have hcm0_14 := cell_bel hcm0_13 hb14 hlm0_13
  have hlm0_14 := Nat.lt_of_lt_of_le hlm0_13 hb14.size
  have hcm1_14 := cell_bel hcm1_13 hb14 hlm1_13
  have hlm1_14 := Nat.lt_of_lt_of_le hlm1_13 hb14.size
  have hcm2_14 := cell_bel hcm2_13 hb14 hlm2_13
  have hlm2_14 := Nat.lt_of_lt_of_le hlm2_13 hb14.size
  have hcp0_14 := cell_bel hcp0_13 hb14 hlp0_13
  have hlp0_14 := Nat.lt_of_lt_of_le hlp0_13 hb14.size
  have hcp1_14 := cell_bel hcp1_13 hb14 hlp1_13
  have hlp1_14 := Nat.lt_of_lt_of_le hlp1_13 hb14.size
  have hcp2_14 := cell_bel hcp2_13 hb14 hlp2_13
  have hlp2_14 := Nat.lt_of_lt_of_le hlp2_13 hb14.size
  have hcp3_14 := cell_bel hcp3_13 hb14 hlp3_13
  have hlp3_14 := Nat.lt_of_lt_of_le hlp3_13 hb14.size
  refine ⟨_, rfl, ⟨hcf_14, hcm_14, hcp0_14, hcp1_14, hcp2_14⟩, ?_⟩
  (try simp (config := {maxSteps := 2000000}) only [Act.put, List.getElem_toArray, List.getElem_cons_succ, List.getElem_cons_zero, List.setIfInBounds_toArray, List.set_cons_zero, List.set_cons_succ])
  have hRX := hF14
  have hBX_14 := Below.refl v14.heap.size v14
  clear hK13 hcf_13 hlf_13 hcm_13 hlm_13 hcm0_13 hlm0_13 hcm1_13 hlm1_13 hcm2_13 hlm2_13 hcp0_13 hlp0_13 hcp1_13 hlp1_13 hcp2_13 hlp2_13 hcp3_13 hlp3_13 hb14 hF14 hh14
  refine Ls.call rfl (by kernel_rfl) (by kernel_rfl) (fun _ => (rtell_o f sec sd bt Asc Asl Asd Ab nsc csc nsl csl nd cd L cb nT tree q v14 hf hU hq (hsd.bel hK14) hnsd hcsd hbsd (hsc.bel hK14) hnsc hcsc hbsc (hb.bel hK14) hnb hcb (by omega) hbb (hT.bel hK14) hnT).mono ?_)
  rintro e v15 ⟨A15, c15, rfl, hF15, hh15, hb15⟩
  have hK15 := bnx hK14 hb15 hK14.size
  have hBX_15 := bnx hBX_14 hb15 hBX_14.size
  have hcf_15 := hcf_14.below hb15 hlf_14
  have hlf_15 := Nat.lt_of_lt_of_le hlf_14 hb15.size
  have hcm_15 := hcm_14.below hb15 hlm_14
  have hlm_15 := Nat.lt_of_lt_of_le hlm_14 hb15.size
  have hcm0_15 := cell_bel hcm0_14 hb15 hlm0_14
  have hlm0_15 := Nat.lt_of_lt_of_le hlm0_14 hb15.size
  have hcm1_15 := cell_bel hcm1_14 hb15 hlm1_14
  have hlm1_15 := Nat.lt_of_lt_of_le hlm1_14 hb15.size
  have hcm2_15 := cell_bel hcm2_14 hb15 hlm2_14
  have hlm2_15 := Nat.lt_of_lt_of_le hlm2_14 hb15.size
  have hcp0_15 := cell_bel hcp0_14 hb15 hlp0_14
  have hlp0_15 := Nat.lt_of_lt_of_le hlp0_14 hb15.size
  have hcp1_15 := cell_bel hcp1_14 hb15 hlp1_14
  have hlp1_15 := Nat.lt_of_lt_of_le hlp1_14 hb15.size
  have hcp2_15 := cell_bel hcp2_14 hb15 hlp2_14
  have hlp2_15 := Nat.lt_of_lt_of_le hlp2_14 hb15.size
  have hcp3_15 := cell_bel hcp3_14 hb15 hlp3_14
  have hlp3_15 := Nat.lt_of_lt_of_le hlp3_14 hb15.size
  refine ⟨_, rfl, ⟨hcf_15, hcm_15, hcp0_15, hcp1_15, hcp2_15⟩, ?_⟩
  (try simp (config := {maxSteps := 2000000}) only [Act.put, List.getElem_toArray, List.getElem_cons_succ, List.getElem_cons_zero, List.setIfInBounds_toArray, List.set_cons_zero, List.set_cons_succ])
  have hRZ := hF15
  have hBZ_15 := Below.refl v15.heap.size v15
  clear hK14 hBX_14 hcf_14 hlf_14 hcm_14 hlm_14 hcm0_14 hlm0_14 hcm1_14 hlm1_14 hcm2_14 hlm2_14 hcp0_14 hlp0_14 hcp1_14 hlp1_14 hcp2_14 hlp2_14 hcp3_14 hlp3_14 hb15 hF15 hh15
  refine Ls.call rfl (by kernel_rfl) (by kernel_rfl) (fun _ => (same_is_b v15 A14 A15 (tellO f nsl sd sec tree q bt) nT c14 c15 (hRX.bel hBX_15) (hRZ.bel hBZ_15) hnT hT9).mono ?_)
  rintro e v16 ⟨rfl, hb16⟩
  have hK16 := bnx hK15 hb16 hK15.size
  have hBX_16 := bnx hBX_15 hb16 hBX_15.size
  have hBZ_16 := bnx hBZ_15 hb16 hBZ_15.size
  have hcf_16 := hcf_15.below hb16 hlf_15
  have hlf_16 := Nat.lt_of_lt_of_le hlf_15 hb16.size
  have hcm_16 := hcm_15.below hb16 hlm_15
  have hlm_16 := Nat.lt_of_lt_of_le hlm_15 hb16.size
  have hcm0_16 := cell_bel hcm0_15 hb16 hlm0_15
  have hlm0_16 := Nat.lt_of_lt_of_le hlm0_15 hb16.size
  have hcm1_16 := cell_bel hcm1_15 hb16 hlm1_15
  have hlm1_16 := Nat.lt_of_lt_of_le hlm1_15 hb16.size
  have hcm2_16 := cell_bel hcm2_15 hb16 hlm2_15
  have hlm2_16 := Nat.lt_of_lt_of_le hlm2_15 hb16.size
  have hcp0_16 := cell_bel hcp0_15 hb16 hlp0_15
  have hlp0_16 := Nat.lt_of_lt_of_le hlp0_15 hb16.size
  have hcp1_16 := cell_bel hcp1_15 hb16 hlp1_15
  have hlp1_16 := Nat.lt_of_lt_of_le hlp1_15 hb16.size
  have hcp2_16 := cell_bel hcp2_15 hb16 hlp2_15
  have hlp2_16 := Nat.lt_of_lt_of_le hlp2_15 hb16.size
  have hcp3_16 := cell_bel hcp3_15 hb16 hlp3_15
  have hlp3_16 := Nat.lt_of_lt_of_le hlp3_15 hb16.size
  refine ⟨_, rfl, ⟨hcf_16, hcm_16, hcp0_16, hcp1_16, hcp2_16⟩, ?_⟩
  (try simp (config := {maxSteps := 2000000}) only [Act.put, List.getElem_toArray, List.getElem_cons_succ, List.getElem_cons_zero, List.setIfInBounds_toArray, List.set_cons_zero, List.set_cons_succ])
  clear hK15 hBX_15 hBZ_15 hcf_15 hlf_15 hcm_15 hlm_15 hcm0_15 hlm0_15 hcm1_15 hlm1_15 hcm2_15 hlm2_15 hcp0_15 hlp0_15 hcp1_15 hlp1_15 hcp2_15 hlp2_15 hcp3_15 hlp3_15 hb16
  clear hRX hRZ hBX_16 hBZ_16
  (refine Ls.val ?_ rfl (fun _ _ _ h => h) (by kernel_rfl) ?_ ?_; rotate_left 1; focus (intro w hw; go_simp; with_reducible rfl)); (try simp (config := {maxSteps := 2000000}) only [Act.put, List.getElem_toArray, List.getElem_cons_succ, List.getElem_cons_zero, List.setIfInBounds_toArray, List.set_cons_zero, List.set_cons_succ])
  (refine Ls.val ?_ rfl (fun _ _ _ h => h) (by kernel_rfl) ?_ ?_; rotate_left 1; focus (intro w hw; go_simp; with_reducible rfl)); (try simp (config := {maxSteps := 2000000}) only [Act.put, List.getElem_toArray, List.getElem_cons_succ, List.getElem_cons_zero, List.setIfInBounds_toArray, List.set_cons_zero, List.set_cons_succ])
  refine Ls.done ?_
  intro _
  (try simp (config := {maxSteps := 2000000}) only [Act.put, List.getElem_toArray, List.getElem_cons_succ, List.getElem_cons_zero, List.setIfInBounds_toArray, List.set_cons_zero, List.set_cons_succ])
  go_wp2_with fail
  go_ret
  exact ⟨by kernel_rfl, hK16⟩
end Go.Proofs.YtfaonieaagepjaaDoor
