/- ForsStands, walked. Conditions: what is read reads as bytes; the tables. -/
import Derived.Test.YtfaonieaagepjaaDoorF7T
import Derived.Test.YtfaonieaagepjaaDoorF7Q
namespace Go.Proofs.YtfaonieaagepjaaDoor
open Go.RowKit
set_option linter.unusedVariables false
set_option linter.unusedSimpArgs false
theorem standsO_le (f : Fw) (sd : List Int) (tree q : Int) (b told : List Int) : (standsO f sd tree q b told).length ≤ 9223372036854775807 := by
  unfold standsO; split
  · exact Nat.le_trans (atL_len _ _ _ _ _ _ _ _) (by decide)
  · simp
theorem stands_o (f : Fw) (sd bt told : List Int) (Asd Ab At : Option Addr) (nd cd L cb mt ct M : Nat) (tree q : Int) (w : World) (hf : f.ok) (ht : U64 tree) (hq : W32 q) (h1 : Rd w w.heap.size .u8 Asd sd) (hn1 : sd.length = nd) (hc1 : nd ≤ cd) (hb1 : Bys sd) (hrb : Rd w w.heap.size .u8 Ab bt) (hLb : bt.length = L) (hLc : L ≤ cb) (hL : L ≤ 100000) (hbb : Bys bt) (htd : Rd w w.heap.size .u8 At told) (hmt : told.length = mt) (hmc : mt ≤ ct) (hbt : Bys told) (hT : KTab w) (hM : (standsO f sd tree q bt told).length = M) :
    Calls Tryd.prog 14 #[.agg f.cs, .slice Asd nd cd, .int .u64 tree, .int .u32 q, .slice Ab L cb, .slice At mt ct] w (OutR w (standsO f sd tree q bt told) M) := by
  by_cases hm : f.may
  · by_cases hs : 8 * L < f.k.toNat * f.a.toNat
    · exact (stands_short f _ _ _ hm.nk hm.na hm.nn hf Asd Ab At nd cd L cb mt ct tree q w hm hL hs).mono fun e w' h => OutR.nil h (if_neg (fun hh => hh.1.2 (by rw [hLb]; exact hs))) hM
    · by_cases hd : nd = f.n.toNat
      · by_cases hl : mt = f.k.toNat * ((f.a.toNat + 1) * nd)
        · have hsz : Szd f.n sd := ⟨hm.n, by rw [hn1, hd]; exact hm.nn⟩
          have e1 : standsO f sd tree q bt told = standsL f.n sd tree q told bt nd f.a.toNat f.k.toNat := by
            unfold standsO
            rw [hn1, if_pos ⟨⟨hm, by rw [hLb]; exact hs⟩, by rw [hd]; exact hm.nn, by rw [hmt]; exact hl⟩]
          rw [e1] at hM ⊢
          obtain rfl : nd = M := by rw [← hM]; unfold standsL; rw [atL_nd hsz, hn1]
          exact stands_any f _ _ hm.nk hm.na hf Asd Ab At nd cd L cb mt ct tree q w sd told ht hq hm bt hrb hLb hLc hL hbb hs hsz h1 hn1 hc1 hb1 htd hmt hmc hbt hl hT
        · exact (stands_len f _ _ _ hm.nk hm.na hm.nn hf Asd Ab At nd cd L cb mt ct tree q w hm bt hrb hLb hLc hL hbb hs hd (by rw [← hd]; exact hl)).mono fun e w' h => OutR.nil h (if_neg (fun hh => hl (by have := hh.2.2; rw [hmt, hn1] at this; exact this))) hM
      · exact (stands_seed f _ _ _ hm.nk hm.na hm.nn hf Asd Ab At nd cd L cb mt ct tree q w hm bt hrb hLb hLc hL hbb hs hd).mono fun e w' h => OutR.nil h (if_neg (fun hh => hd (by have := hh.2.1; rw [hn1] at this; omega))) hM
  · exact (stands_may f hf Asd Ab At nd cd L cb mt ct tree q w hm).mono fun e w' h => OutR.nil h (if_neg (fun hh => hm hh.1.1)) hM
theorem rstands_o (f : Fw) (sd bt told : List Int) (Asd Ab At : Option Addr) (nd cd L cb mt ct M : Nat) (tree q : Int) (w : World) (hf : f.ok) (ht : U64 tree) (hq : W32 q) (h1 : Rd w w.heap.size .u8 Asd sd) (hn1 : sd.length = nd) (hc1 : nd ≤ cd) (hb1 : Bys sd) (hrb : Rd w w.heap.size .u8 Ab bt) (hLb : bt.length = L) (hLc : L ≤ cb) (hL : L ≤ 100000) (hbb : Bys bt) (htd : Rd w w.heap.size .u8 At told) (hmt : told.length = mt) (hmc : mt ≤ ct) (hbt : Bys told) (hT : KTab w) (hM : (standsO f sd tree q bt told).length = M) :
    Calls Tryd.prog 15 #[.agg f.cs, .slice Asd nd cd, .int .u64 tree, .int .u32 q, .slice Ab L cb, .slice At mt ct] w (OutR w (standsO f sd tree q bt told) M) := by
  by_cases hm : f.may
  · by_cases hs : 8 * L < f.k.toNat * f.a.toNat
    · exact (rstands_short f _ _ _ hm.nk hm.na hm.nn hf Asd Ab At nd cd L cb mt ct tree q w hm hL hs).mono fun e w' h => OutR.nil h (if_neg (fun hh => hh.1.2 (by rw [hLb]; exact hs))) hM
    · by_cases hd : nd = f.n.toNat
      · by_cases hl : mt = f.k.toNat * ((f.a.toNat + 1) * nd)
        · have hsz : Szd f.n sd := ⟨hm.n, by rw [hn1, hd]; exact hm.nn⟩
          have e1 : standsO f sd tree q bt told = standsL f.n sd tree q told bt nd f.a.toNat f.k.toNat := by
            unfold standsO
            rw [hn1, if_pos ⟨⟨hm, by rw [hLb]; exact hs⟩, by rw [hd]; exact hm.nn, by rw [hmt]; exact hl⟩]
          rw [e1] at hM ⊢
          obtain rfl : nd = M := by rw [← hM]; unfold standsL; rw [atL_nd hsz, hn1]
          exact rstands_any f _ _ hm.nk hm.na hf Asd Ab At nd cd L cb mt ct tree q w sd told ht hq hm bt hrb hLb hLc hL hbb hs hsz h1 hn1 hc1 hb1 htd hmt hmc hbt hl
        · exact (rstands_len f _ _ _ hm.nk hm.na hm.nn hf Asd Ab At nd cd L cb mt ct tree q w hm bt hrb hLb hLc hL hbb hs hd (by rw [← hd]; exact hl)).mono fun e w' h => OutR.nil h (if_neg (fun hh => hl (by have := hh.2.2; rw [hmt, hn1] at this; exact this))) hM
      · exact (rstands_seed f _ _ _ hm.nk hm.na hm.nn hf Asd Ab At nd cd L cb mt ct tree q w hm bt hrb hLb hLc hL hbb hs hd).mono fun e w' h => OutR.nil h (if_neg (fun hh => hd (by have := hh.2.1; rw [hn1] at this; omega))) hM
  · exact (rstands_may f hf Asd Ab At nd cd L cb mt ct tree q w hm).mono fun e w' h => OutR.nil h (if_neg (fun hh => hm hh.1.1)) hM
set_option maxRecDepth 100000 in
set_option maxHeartbeats 8000000 in
theorem forsStands_walk (f : Fw) (tree q : Int) (sd bt told : List Int) (Asd Ab At : Option Addr) (cd cb ct : Nat) (w : World) (hf : f.ok) (hU : U64 tree) (hq : W32 q) (hsd : Rd w w.heap.size .u8 Asd sd) (hcsd : sd.length ≤ cd) (hmsd : cd ≤ 9223372036854775807) (hbsd : Bys sd) (hb : Rd w w.heap.size .u8 Ab bt) (hcb : bt.length ≤ cb) (hmb : cb ≤ 9223372036854775807) (hbb : Bys bt) (ht : Rd w w.heap.size .u8 At told) (hct : told.length ≤ ct) (hmt : ct ≤ 9223372036854775807) (hbt : Bys told) (hT : KTab w) :
    Calls Tryd.prog 3 #[.agg f.cs, .slice Asd sd.length cd, .agg #[.int .u64 tree, .int .u32 q, .slice Ab bt.length cb, .slice At told.length ct]] w fun e w' => e = .returned (.bool true) ∧ Below w.heap.size w w' := by
  obtain ⟨nd, hnsd⟩ : ∃ n, sd.length = n := ⟨_, rfl⟩
  rw [hnsd] at hcsd ⊢
  obtain ⟨L, hnb⟩ : ∃ n, bt.length = n := ⟨_, rfl⟩
  rw [hnb] at hcb ⊢
  obtain ⟨mt, hnt⟩ : ∃ n, told.length = n := ⟨_, rfl⟩
  rw [hnt] at hct ⊢
  have hmx : (200000000 : Nat) ≤ maxLen := by decide
  have hXf := (Blk.new w 23 f.cs).alloc (.cells #[.int .u64 tree, .int .u32 q, .slice Ab L cb, .slice At mt ct] 28)
  have hXp := Blk.new (w.alloc (.cells f.cs 23)) 28 #[.int .u64 tree, .int .u32 q, .slice Ab L cb, .slice At mt ct]
  have hKx := bal (bal (Below.refl w.heap.size w) (Nat.le_refl _) (.cells f.cs 23)) (by simp) (.cells #[.int .u64 tree, .int .u32 q, .slice Ab L cb, .slice At mt ct] 28)
  have hz1 : (w.alloc (.cells f.cs 23)).heap.size = w.heap.size + 1 := by simp
  go_enter Tryd.func3, Tryd.ntmps3
  go_upto_region 1 with fail
  change Code.wp _ _ _ _ ((w.alloc (.cells f.cs 23)).alloc (.cells #[.int .u64 tree, .int .u32 q, .slice Ab L cb, .slice At mt ct] 28))
  generalize (w.alloc (.cells f.cs 23)).alloc (.cells #[.int .u64 tree, .int .u32 q, .slice Ab L cb, .slice At mt ct] 28) = w0 at hXf hXp hKx ⊢
  rw [hz1] at hXp
  clear hz1
  have hp0 := hXp.cell 0 _ rfl
  have hp1 := hXp.cell 1 _ rfl
  have hp2 := hXp.cell 2 _ rfl
  have hp3 := hXp.cell 3 _ rfl
  have hlf := hXf.lt
  have hlp := hXp.lt
  have hlp0 := hlp
  have hlp1 := hlp
  have hlp2 := hlp
  have hlp3 := hlp
  clear hXp hlp
  go_wp2_with fail
  (with_reducible refine (awake17_any w0 (hT.bel hKx)).mono ?_)
  rintro e v1 ⟨rfl, hb1⟩
  have hK1 := bnx hKx hb1 hKx.size
  have hcf_1 := hXf.below hb1 hlf
  have hlf_1 := Nat.lt_of_lt_of_le hlf hb1.size
  have hcp0_1 := cell_bel hp0 hb1 hlp0
  have hlp0_1 := Nat.lt_of_lt_of_le hlp0 hb1.size
  have hcp1_1 := cell_bel hp1 hb1 hlp1
  have hlp1_1 := Nat.lt_of_lt_of_le hlp1 hb1.size
  have hcp2_1 := cell_bel hp2 hb1 hlp2
  have hlp2_1 := Nat.lt_of_lt_of_le hlp2 hb1.size
  have hcp3_1 := cell_bel hp3 hb1 hlp3
  have hlp3_1 := Nat.lt_of_lt_of_le hlp3 hb1.size
  clear hKx hXf hlf hp0 hlp0 hp1 hlp1 hp2 hlp2 hp3 hlp3 hb1
  by_cases hgb : 300 < L
  · have hgbI : (300 : Int) < (L : Int) := by omega
    go_wp2_with fail
    go_ret
    exact ⟨rfl, hK1⟩
  have hgbI : ¬ (300 : Int) < (L : Int) := by omega
  by_cases hgt : 40000 < mt
  · have hgtI : (40000 : Int) < (mt : Int) := by omega
    go_wp2_with fail
    go_ret
    exact ⟨rfl, hK1⟩
  have hgtI : ¬ (40000 : Int) < (mt : Int) := by omega
  by_cases hgsd : 100 < nd
  · have hgsdI : (100 : Int) < (nd : Int) := by omega
    go_wp2_with fail
    go_ret
    exact ⟨rfl, hK1⟩
  have hgsdI : ¬ (100 : Int) < (nd : Int) := by omega
  obtain ⟨nS, hnS⟩ : ∃ n, (standsO f sd tree q bt told).length = n := ⟨_, rfl⟩
  have hS9 : nS ≤ 9223372036854775807 := by rw [← hnS]; exact standsO_le f sd tree q bt told
  go_upto_region 5 with fail
  refine Ls.start (fun w' => Blk w' w.heap.size 23 f.cs ∧ w'.cell? ⟨w.heap.size + 1, 0, none⟩ = some (.int .u64 tree) ∧ w'.cell? ⟨w.heap.size + 1, 1, none⟩ = some (.int .u32 q) ∧ w'.cell? ⟨w.heap.size + 1, 2, none⟩ = some (.slice Ab L cb) ∧ w'.cell? ⟨w.heap.size + 1, 3, none⟩ = some (.slice At mt ct)) [(0, true), (1, true), (2, true), (3, true), (4, true), (5, true), (6, true), (7, true), (8, true), (9, true), (11, true), (12, true), (13, true), (14, true), (15, true), (16, true), (17, true), (18, true), (19, true), (20, true), (10, false), (21, false), (22, false), (23, true)] (by kernel_rfl) (by kernel_rfl) (by kernel_rfl) (by kernel_rfl) ⟨hcf_1.drew, hcp0_1, hcp1_1, hcp2_1, hcp3_1⟩ ?_
  refine Ls.val (.agg f.cs) rfl (fun _ _ _ h => h) (by kernel_rfl) (fun w hw => exec_load_row w rfl (by kernel_rfl) Tryd.underlying23 rfl (by kernel_rfl) hw.1) ?_; (try simp (config := {maxSteps := 2000000}) only [Act.put, List.getElem_toArray, List.getElem_cons_succ, List.getElem_cons_zero, List.setIfInBounds_toArray, List.set_cons_zero, List.set_cons_succ])
  (refine Ls.val ?_ rfl (fun _ _ _ h => h) (by kernel_rfl) ?_ ?_; rotate_left 1; focus (intro w hw; go_simp; with_reducible rfl)); (try simp (config := {maxSteps := 2000000}) only [Act.put, List.getElem_toArray, List.getElem_cons_succ, List.getElem_cons_zero, List.setIfInBounds_toArray, List.set_cons_zero, List.set_cons_succ])
  (refine Ls.val ?_ rfl (fun _ _ _ h => h) (by kernel_rfl) ?_ ?_; rotate_left 1; focus (intro w hw; go_simp; with_reducible rfl)); (try simp (config := {maxSteps := 2000000}) only [Act.put, List.getElem_toArray, List.getElem_cons_succ, List.getElem_cons_zero, List.setIfInBounds_toArray, List.set_cons_zero, List.set_cons_succ])
  (refine Ls.val ?_ rfl (fun _ _ _ h => h) (by kernel_rfl) ?_ ?_; rotate_left 1; focus (intro w hw; have hcell := hw.2.1; go_simp; with_reducible rfl)); (try simp (config := {maxSteps := 2000000}) only [Act.put, List.getElem_toArray, List.getElem_cons_succ, List.getElem_cons_zero, List.setIfInBounds_toArray, List.set_cons_zero, List.set_cons_succ])
  (refine Ls.val ?_ rfl (fun _ _ _ h => h) (by kernel_rfl) ?_ ?_; rotate_left 1; focus (intro w hw; go_simp; with_reducible rfl)); (try simp (config := {maxSteps := 2000000}) only [Act.put, List.getElem_toArray, List.getElem_cons_succ, List.getElem_cons_zero, List.setIfInBounds_toArray, List.set_cons_zero, List.set_cons_succ])
  (refine Ls.val ?_ rfl (fun _ _ _ h => h) (by kernel_rfl) ?_ ?_; rotate_left 1; focus (intro w hw; have hcell := hw.2.2.1; go_simp; with_reducible rfl)); (try simp (config := {maxSteps := 2000000}) only [Act.put, List.getElem_toArray, List.getElem_cons_succ, List.getElem_cons_zero, List.setIfInBounds_toArray, List.set_cons_zero, List.set_cons_succ])
  (refine Ls.val ?_ rfl (fun _ _ _ h => h) (by kernel_rfl) ?_ ?_; rotate_left 1; focus (intro w hw; go_simp; with_reducible rfl)); (try simp (config := {maxSteps := 2000000}) only [Act.put, List.getElem_toArray, List.getElem_cons_succ, List.getElem_cons_zero, List.setIfInBounds_toArray, List.set_cons_zero, List.set_cons_succ])
  (refine Ls.val ?_ rfl (fun _ _ _ h => h) (by kernel_rfl) ?_ ?_; rotate_left 1; focus (intro w hw; have hcell := hw.2.2.2.1; go_simp; with_reducible rfl)); (try simp (config := {maxSteps := 2000000}) only [Act.put, List.getElem_toArray, List.getElem_cons_succ, List.getElem_cons_zero, List.setIfInBounds_toArray, List.set_cons_zero, List.set_cons_succ])
  (refine Ls.val ?_ rfl (fun _ _ _ h => h) (by kernel_rfl) ?_ ?_; rotate_left 1; focus (intro w hw; go_simp; with_reducible rfl)); (try simp (config := {maxSteps := 2000000}) only [Act.put, List.getElem_toArray, List.getElem_cons_succ, List.getElem_cons_zero, List.setIfInBounds_toArray, List.set_cons_zero, List.set_cons_succ])
  (refine Ls.val ?_ rfl (fun _ _ _ h => h) (by kernel_rfl) ?_ ?_; rotate_left 1; focus (intro w hw; have hcell := hw.2.2.2.2; go_simp; with_reducible rfl)); (try simp (config := {maxSteps := 2000000}) only [Act.put, List.getElem_toArray, List.getElem_cons_succ, List.getElem_cons_zero, List.setIfInBounds_toArray, List.set_cons_zero, List.set_cons_succ])
  refine Ls.val (.agg f.cs) rfl (fun _ _ _ h => h) (by kernel_rfl) (fun w hw => exec_load_row w rfl (by kernel_rfl) Tryd.underlying23 rfl (by kernel_rfl) hw.1) ?_; (try simp (config := {maxSteps := 2000000}) only [Act.put, List.getElem_toArray, List.getElem_cons_succ, List.getElem_cons_zero, List.setIfInBounds_toArray, List.set_cons_zero, List.set_cons_succ])
  (refine Ls.val ?_ rfl (fun _ _ _ h => h) (by kernel_rfl) ?_ ?_; rotate_left 1; focus (intro w hw; go_simp; with_reducible rfl)); (try simp (config := {maxSteps := 2000000}) only [Act.put, List.getElem_toArray, List.getElem_cons_succ, List.getElem_cons_zero, List.setIfInBounds_toArray, List.set_cons_zero, List.set_cons_succ])
  (refine Ls.val ?_ rfl (fun _ _ _ h => h) (by kernel_rfl) ?_ ?_; rotate_left 1; focus (intro w hw; go_simp; with_reducible rfl)); (try simp (config := {maxSteps := 2000000}) only [Act.put, List.getElem_toArray, List.getElem_cons_succ, List.getElem_cons_zero, List.setIfInBounds_toArray, List.set_cons_zero, List.set_cons_succ])
  (refine Ls.val ?_ rfl (fun _ _ _ h => h) (by kernel_rfl) ?_ ?_; rotate_left 1; focus (intro w hw; have hcell := hw.2.1; go_simp; with_reducible rfl)); (try simp (config := {maxSteps := 2000000}) only [Act.put, List.getElem_toArray, List.getElem_cons_succ, List.getElem_cons_zero, List.setIfInBounds_toArray, List.set_cons_zero, List.set_cons_succ])
  (refine Ls.val ?_ rfl (fun _ _ _ h => h) (by kernel_rfl) ?_ ?_; rotate_left 1; focus (intro w hw; go_simp; with_reducible rfl)); (try simp (config := {maxSteps := 2000000}) only [Act.put, List.getElem_toArray, List.getElem_cons_succ, List.getElem_cons_zero, List.setIfInBounds_toArray, List.set_cons_zero, List.set_cons_succ])
  (refine Ls.val ?_ rfl (fun _ _ _ h => h) (by kernel_rfl) ?_ ?_; rotate_left 1; focus (intro w hw; have hcell := hw.2.2.1; go_simp; with_reducible rfl)); (try simp (config := {maxSteps := 2000000}) only [Act.put, List.getElem_toArray, List.getElem_cons_succ, List.getElem_cons_zero, List.setIfInBounds_toArray, List.set_cons_zero, List.set_cons_succ])
  (refine Ls.val ?_ rfl (fun _ _ _ h => h) (by kernel_rfl) ?_ ?_; rotate_left 1; focus (intro w hw; go_simp; with_reducible rfl)); (try simp (config := {maxSteps := 2000000}) only [Act.put, List.getElem_toArray, List.getElem_cons_succ, List.getElem_cons_zero, List.setIfInBounds_toArray, List.set_cons_zero, List.set_cons_succ])
  (refine Ls.val ?_ rfl (fun _ _ _ h => h) (by kernel_rfl) ?_ ?_; rotate_left 1; focus (intro w hw; have hcell := hw.2.2.2.1; go_simp; with_reducible rfl)); (try simp (config := {maxSteps := 2000000}) only [Act.put, List.getElem_toArray, List.getElem_cons_succ, List.getElem_cons_zero, List.setIfInBounds_toArray, List.set_cons_zero, List.set_cons_succ])
  (refine Ls.val ?_ rfl (fun _ _ _ h => h) (by kernel_rfl) ?_ ?_; rotate_left 1; focus (intro w hw; go_simp; with_reducible rfl)); (try simp (config := {maxSteps := 2000000}) only [Act.put, List.getElem_toArray, List.getElem_cons_succ, List.getElem_cons_zero, List.setIfInBounds_toArray, List.set_cons_zero, List.set_cons_succ])
  (refine Ls.val ?_ rfl (fun _ _ _ h => h) (by kernel_rfl) ?_ ?_; rotate_left 1; focus (intro w hw; have hcell := hw.2.2.2.2; go_simp; with_reducible rfl)); (try simp (config := {maxSteps := 2000000}) only [Act.put, List.getElem_toArray, List.getElem_cons_succ, List.getElem_cons_zero, List.setIfInBounds_toArray, List.set_cons_zero, List.set_cons_succ])
  have hK2 := bdw hK1
  have hcf_2 := hcf_1.drew
  have hlf_2 := (show _ < v1.drew.heap.size from hlf_1)
  have hcp0_2 := cdw hcp0_1
  have hlp0_2 := (show _ < v1.drew.heap.size from hlp0_1)
  have hcp1_2 := cdw hcp1_1
  have hlp1_2 := (show _ < v1.drew.heap.size from hlp1_1)
  have hcp2_2 := cdw hcp2_1
  have hlp2_2 := (show _ < v1.drew.heap.size from hlp2_1)
  have hcp3_2 := cdw hcp3_1
  have hlp3_2 := (show _ < v1.drew.heap.size from hlp3_1)
  generalize v1.drew = v2 at hK2 hcf_2 hlf_2 hcp0_2 hlp0_2 hcp1_2 hlp1_2 hcp2_2 hlp2_2 hcp3_2 hlp3_2 ⊢
  clear hK1 hcf_1 hlf_1 hcp0_1 hlp0_1 hcp1_1 hlp1_1 hcp2_1 hlp2_1 hcp3_1 hlp3_1
  refine Ls.call rfl (by kernel_rfl) (by kernel_rfl) (fun _ => (stands_o f sd bt told Asd Ab At nd cd L cb mt ct nS tree q v2 hf hU hq (hsd.bel hK2) hnsd hcsd hbsd (hb.bel hK2) hnb hcb (by omega) hbb (ht.bel hK2) hnt hct hbt (hT.bel hK2) hnS).mono ?_)
  rintro e v3 ⟨A3, c3, rfl, hF3, hh3, hb3⟩
  have hK3 := bnx hK2 hb3 hK2.size
  have hcf_3 := hcf_2.below hb3 hlf_2
  have hlf_3 := Nat.lt_of_lt_of_le hlf_2 hb3.size
  have hcp0_3 := cell_bel hcp0_2 hb3 hlp0_2
  have hlp0_3 := Nat.lt_of_lt_of_le hlp0_2 hb3.size
  have hcp1_3 := cell_bel hcp1_2 hb3 hlp1_2
  have hlp1_3 := Nat.lt_of_lt_of_le hlp1_2 hb3.size
  have hcp2_3 := cell_bel hcp2_2 hb3 hlp2_2
  have hlp2_3 := Nat.lt_of_lt_of_le hlp2_2 hb3.size
  have hcp3_3 := cell_bel hcp3_2 hb3 hlp3_2
  have hlp3_3 := Nat.lt_of_lt_of_le hlp3_2 hb3.size
  refine ⟨_, rfl, ⟨hcf_3, hcp0_3, hcp1_3, hcp2_3, hcp3_3⟩, ?_⟩
  (try simp (config := {maxSteps := 2000000}) only [Act.put, List.getElem_toArray, List.getElem_cons_succ, List.getElem_cons_zero, List.setIfInBounds_toArray, List.set_cons_zero, List.set_cons_succ])
  have hRX := hF3
  have hBX_3 := Below.refl v3.heap.size v3
  clear hK2 hcf_2 hlf_2 hcp0_2 hlp0_2 hcp1_2 hlp1_2 hcp2_2 hlp2_2 hcp3_2 hlp3_2 hb3 hF3 hh3
  refine Ls.call rfl (by kernel_rfl) (by kernel_rfl) (fun _ => (rstands_o f sd bt told Asd Ab At nd cd L cb mt ct nS tree q v3 hf hU hq (hsd.bel hK3) hnsd hcsd hbsd (hb.bel hK3) hnb hcb (by omega) hbb (ht.bel hK3) hnt hct hbt (hT.bel hK3) hnS).mono ?_)
  rintro e v4 ⟨A4, c4, rfl, hF4, hh4, hb4⟩
  have hK4 := bnx hK3 hb4 hK3.size
  have hBX_4 := bnx hBX_3 hb4 hBX_3.size
  have hcf_4 := hcf_3.below hb4 hlf_3
  have hlf_4 := Nat.lt_of_lt_of_le hlf_3 hb4.size
  have hcp0_4 := cell_bel hcp0_3 hb4 hlp0_3
  have hlp0_4 := Nat.lt_of_lt_of_le hlp0_3 hb4.size
  have hcp1_4 := cell_bel hcp1_3 hb4 hlp1_3
  have hlp1_4 := Nat.lt_of_lt_of_le hlp1_3 hb4.size
  have hcp2_4 := cell_bel hcp2_3 hb4 hlp2_3
  have hlp2_4 := Nat.lt_of_lt_of_le hlp2_3 hb4.size
  have hcp3_4 := cell_bel hcp3_3 hb4 hlp3_3
  have hlp3_4 := Nat.lt_of_lt_of_le hlp3_3 hb4.size
  refine ⟨_, rfl, ⟨hcf_4, hcp0_4, hcp1_4, hcp2_4, hcp3_4⟩, ?_⟩
  (try simp (config := {maxSteps := 2000000}) only [Act.put, List.getElem_toArray, List.getElem_cons_succ, List.getElem_cons_zero, List.setIfInBounds_toArray, List.set_cons_zero, List.set_cons_succ])
  have hRZ := hF4
  have hBZ_4 := Below.refl v4.heap.size v4
  clear hK3 hBX_3 hcf_3 hlf_3 hcp0_3 hlp0_3 hcp1_3 hlp1_3 hcp2_3 hlp2_3 hcp3_3 hlp3_3 hb4 hF4 hh4
  refine Ls.call rfl (by kernel_rfl) (by kernel_rfl) (fun _ => (same_is_b v4 A3 A4 (standsO f sd tree q bt told) nS c3 c4 (hRX.bel hBX_4) (hRZ.bel hBZ_4) hnS hS9).mono ?_)
  rintro e v5 ⟨rfl, hb5⟩
  have hK5 := bnx hK4 hb5 hK4.size
  have hBX_5 := bnx hBX_4 hb5 hBX_4.size
  have hBZ_5 := bnx hBZ_4 hb5 hBZ_4.size
  have hcf_5 := hcf_4.below hb5 hlf_4
  have hlf_5 := Nat.lt_of_lt_of_le hlf_4 hb5.size
  have hcp0_5 := cell_bel hcp0_4 hb5 hlp0_4
  have hlp0_5 := Nat.lt_of_lt_of_le hlp0_4 hb5.size
  have hcp1_5 := cell_bel hcp1_4 hb5 hlp1_4
  have hlp1_5 := Nat.lt_of_lt_of_le hlp1_4 hb5.size
  have hcp2_5 := cell_bel hcp2_4 hb5 hlp2_4
  have hlp2_5 := Nat.lt_of_lt_of_le hlp2_4 hb5.size
  have hcp3_5 := cell_bel hcp3_4 hb5 hlp3_4
  have hlp3_5 := Nat.lt_of_lt_of_le hlp3_4 hb5.size
  refine ⟨_, rfl, ⟨hcf_5, hcp0_5, hcp1_5, hcp2_5, hcp3_5⟩, ?_⟩
  (try simp (config := {maxSteps := 2000000}) only [Act.put, List.getElem_toArray, List.getElem_cons_succ, List.getElem_cons_zero, List.setIfInBounds_toArray, List.set_cons_zero, List.set_cons_succ])
  clear hK4 hBX_4 hBZ_4 hcf_4 hlf_4 hcp0_4 hlp0_4 hcp1_4 hlp1_4 hcp2_4 hlp2_4 hcp3_4 hlp3_4 hb5
  (refine Ls.val ?_ rfl (fun _ _ _ h => h) (by kernel_rfl) ?_ ?_; rotate_left 1; focus (intro w hw; go_simp; with_reducible rfl)); (try simp (config := {maxSteps := 2000000}) only [Act.put, List.getElem_toArray, List.getElem_cons_succ, List.getElem_cons_zero, List.setIfInBounds_toArray, List.set_cons_zero, List.set_cons_succ])
  refine Ls.done ?_
  intro _
  (try simp (config := {maxSteps := 2000000}) only [Act.put, List.getElem_toArray, List.getElem_cons_succ, List.getElem_cons_zero, List.setIfInBounds_toArray, List.set_cons_zero, List.set_cons_succ])
  go_wp2_with fail
  go_ret
  exact ⟨by kernel_rfl, hK5⟩
end Go.Proofs.YtfaonieaagepjaaDoor
