/- ForsKeeps, walked. Conditions: what is read reads as bytes; the tables. -/
import Derived.Test.YtfaonieaagepjaaDoorF7T
namespace Go.Proofs.YtfaonieaagepjaaDoor
open Go.RowKit
set_option linter.unusedVariables false
set_option linter.unusedSimpArgs false
theorem mul3 (k a n p t : Nat) (h : k * (a + 1) = p) (h2 : p * n = t) (hp : p ≤ 1000000) (ht : t ≤ 1000000) : wrap64 (wrap64 ((k : Int) * ((a : Int) + 1)) * (n : Int)) = (t : Int) := by
  have e1 : (k : Int) * ((a : Int) + 1) = (p : Int) := by rw [← h]; push_cast; rfl
  rw [e1, IntWalk.wrap64_in (p : Int) ⟨by omega, by omega⟩]
  have e2 : (p : Int) * (n : Int) = (t : Int) := by rw [← h2]; push_cast; rfl
  rw [e2]; exact IntWalk.wrap64_in _ ⟨by omega, by omega⟩
set_option maxRecDepth 100000 in
set_option maxHeartbeats 8000000 in
theorem forsKeeps_walk (f : Fw) (tree q : Int) (sec sal sd bt told : List Int) (Asc Asl Asd Ab At : Option Addr) (csc csl cd cb ct : Nat) (w : World) (hf : f.ok) (hU : U64 tree) (hq : W32 q) (hsc : Rd w w.heap.size .u8 Asc sec) (hcsc : sec.length ≤ csc) (hmsc : csc ≤ 9223372036854775807) (hbsc : Bys sec) (hsl : Rd w w.heap.size .u8 Asl sal) (hcsl : sal.length ≤ csl) (hmsl : csl ≤ 9223372036854775807) (hbsl : Bys sal) (hsd : Rd w w.heap.size .u8 Asd sd) (hcsd : sd.length ≤ cd) (hmsd : cd ≤ 9223372036854775807) (hbsd : Bys sd) (hb : Rd w w.heap.size .u8 Ab bt) (hcb : bt.length ≤ cb) (hmb : cb ≤ 9223372036854775807) (hbb : Bys bt) (ht : Rd w w.heap.size .u8 At told) (hct : told.length ≤ ct) (hmt : ct ≤ 9223372036854775807) (hbt : Bys told) (hT : KTab w) :
    Calls Tryd.prog 6 #[.agg f.cs, .agg #[.slice Asc sec.length csc, .slice Asl sal.length csl, .slice Asd sd.length cd], .agg #[.int .u64 tree, .int .u32 q, .slice Ab bt.length cb, .slice At told.length ct]] w fun e w' => e = .returned (.bool true) ∧ Below w.heap.size w w' := by
  obtain ⟨nsc, hnsc⟩ : ∃ n, sec.length = n := ⟨_, rfl⟩
  rw [hnsc] at hcsc ⊢
  obtain ⟨nsl, hnsl⟩ : ∃ n, sal.length = n := ⟨_, rfl⟩
  rw [hnsl] at hcsl ⊢
  obtain ⟨nd, hnsd⟩ : ∃ n, sd.length = n := ⟨_, rfl⟩
  rw [hnsd] at hcsd ⊢
  obtain ⟨L, hnb⟩ : ∃ n, bt.length = n := ⟨_, rfl⟩
  rw [hnb] at hcb ⊢
  obtain ⟨mt, hnt⟩ : ∃ n, told.length = n := ⟨_, rfl⟩
  rw [hnt] at hct ⊢
  have hmx : (200000000 : Nat) ≤ maxLen := by decide
  have hXf := ((Blk.new w 23 f.cs).alloc (.cells #[.slice Asc nsc csc, .slice Asl nsl csl, .slice Asd nd cd] 39)).alloc (.cells #[.int .u64 tree, .int .u32 q, .slice Ab L cb, .slice At mt ct] 28)
  have hXm := (Blk.new (w.alloc (.cells f.cs 23)) 39 #[.slice Asc nsc csc, .slice Asl nsl csl, .slice Asd nd cd]).alloc (.cells #[.int .u64 tree, .int .u32 q, .slice Ab L cb, .slice At mt ct] 28)
  have hXp := Blk.new ((w.alloc (.cells f.cs 23)).alloc (.cells #[.slice Asc nsc csc, .slice Asl nsl csl, .slice Asd nd cd] 39)) 28 #[.int .u64 tree, .int .u32 q, .slice Ab L cb, .slice At mt ct]
  have hKx := bal (bal (bal (Below.refl w.heap.size w) (Nat.le_refl _) (.cells f.cs 23)) (by simp) (.cells #[.slice Asc nsc csc, .slice Asl nsl csl, .slice Asd nd cd] 39)) (by simp; omega) (.cells #[.int .u64 tree, .int .u32 q, .slice Ab L cb, .slice At mt ct] 28)
  have hz1 : (w.alloc (.cells f.cs 23)).heap.size = w.heap.size + 1 := by simp
  have hz2 : ((w.alloc (.cells f.cs 23)).alloc (.cells #[.slice Asc nsc csc, .slice Asl nsl csl, .slice Asd nd cd] 39)).heap.size = w.heap.size + 2 := by simp
  go_enter Tryd.func6, Tryd.ntmps6
  go_upto_region 1 with fail
  change Code.wp _ _ _ _ (((w.alloc (.cells f.cs 23)).alloc (.cells #[.slice Asc nsc csc, .slice Asl nsl csl, .slice Asd nd cd] 39)).alloc (.cells #[.int .u64 tree, .int .u32 q, .slice Ab L cb, .slice At mt ct] 28))
  generalize (((w.alloc (.cells f.cs 23)).alloc (.cells #[.slice Asc nsc csc, .slice Asl nsl csl, .slice Asd nd cd] 39)).alloc (.cells #[.int .u64 tree, .int .u32 q, .slice Ab L cb, .slice At mt ct] 28)) = w0 at hXf hXm hXp hKx ⊢
  rw [hz1] at hXm
  rw [hz2] at hXp
  clear hz1 hz2
  have hm0 := hXm.cell 0 _ rfl
  have hm1 := hXm.cell 1 _ rfl
  have hm2 := hXm.cell 2 _ rfl
  have hp0 := hXp.cell 0 _ rfl
  have hp1 := hXp.cell 1 _ rfl
  have hp2 := hXp.cell 2 _ rfl
  have hp3 := hXp.cell 3 _ rfl
  have hlf := hXf.lt
  have hlm := hXm.lt
  have hlp := hXp.lt
  have hlm0 := hlm
  have hlm1 := hlm
  have hlm2 := hlm
  have hlp0 := hlp
  have hlp1 := hlp
  have hlp2 := hlp
  have hlp3 := hlp
  clear hXp hlp
  go_wp2_with fail
  (with_reducible refine (awake17_any w0 (hT.bel hKx)).mono ?_)
  rintro e v1 ⟨rfl, hb1⟩
  have hK1 := bnx hKx hb1 hKx.size
  have hcf_1 := hXf.below hb1 hlf
  have hlf_1 := Nat.lt_of_lt_of_le hlf hb1.size
  have hcm_1 := hXm.below hb1 hlm
  have hlm_1 := Nat.lt_of_lt_of_le hlm hb1.size
  have hcm0_1 := cell_bel hm0 hb1 hlm0
  have hlm0_1 := Nat.lt_of_lt_of_le hlm0 hb1.size
  have hcm1_1 := cell_bel hm1 hb1 hlm1
  have hlm1_1 := Nat.lt_of_lt_of_le hlm1 hb1.size
  have hcm2_1 := cell_bel hm2 hb1 hlm2
  have hlm2_1 := Nat.lt_of_lt_of_le hlm2 hb1.size
  have hcp0_1 := cell_bel hp0 hb1 hlp0
  have hlp0_1 := Nat.lt_of_lt_of_le hlp0 hb1.size
  have hcp1_1 := cell_bel hp1 hb1 hlp1
  have hlp1_1 := Nat.lt_of_lt_of_le hlp1 hb1.size
  have hcp2_1 := cell_bel hp2 hb1 hlp2
  have hlp2_1 := Nat.lt_of_lt_of_le hlp2 hb1.size
  have hcp3_1 := cell_bel hp3 hb1 hlp3
  have hlp3_1 := Nat.lt_of_lt_of_le hlp3 hb1.size
  clear hKx hXf hlf hXm hlm hm0 hlm0 hm1 hlm1 hm2 hlm2 hp0 hlp0 hp1 hlp1 hp2 hlp2 hp3 hlp3 hb1
  by_cases hlt : f.light
  rotate_left 1
  · go_wp2_with (first | (refine wpList_blk_yes (t := 23) (T := 23) (by rfl) rfl rfl Tryd.underlying23 rfl (by kernel_rfl) hcf_1 ?_))
    (with_reducible refine (light_no f v1 hf hlt).mono ?_)
    rintro e v2 ⟨rfl, hb2⟩
    have hK2 := bnx hK1 hb2 hK1.size
    have hcf_2 := hcf_1.below hb2 hlf_1
    have hlf_2 := Nat.lt_of_lt_of_le hlf_1 hb2.size
    have hcm_2 := hcm_1.below hb2 hlm_1
    have hlm_2 := Nat.lt_of_lt_of_le hlm_1 hb2.size
    have hcm0_2 := cell_bel hcm0_1 hb2 hlm0_1
    have hlm0_2 := Nat.lt_of_lt_of_le hlm0_1 hb2.size
    have hcm1_2 := cell_bel hcm1_1 hb2 hlm1_1
    have hlm1_2 := Nat.lt_of_lt_of_le hlm1_1 hb2.size
    have hcm2_2 := cell_bel hcm2_1 hb2 hlm2_1
    have hlm2_2 := Nat.lt_of_lt_of_le hlm2_1 hb2.size
    have hcp0_2 := cell_bel hcp0_1 hb2 hlp0_1
    have hlp0_2 := Nat.lt_of_lt_of_le hlp0_1 hb2.size
    have hcp1_2 := cell_bel hcp1_1 hb2 hlp1_1
    have hlp1_2 := Nat.lt_of_lt_of_le hlp1_1 hb2.size
    have hcp2_2 := cell_bel hcp2_1 hb2 hlp2_1
    have hlp2_2 := Nat.lt_of_lt_of_le hlp2_1 hb2.size
    have hcp3_2 := cell_bel hcp3_1 hb2 hlp3_1
    have hlp3_2 := Nat.lt_of_lt_of_le hlp3_1 hb2.size
    clear hK1 hcf_1 hlf_1 hcm_1 hlm_1 hcm0_1 hlm0_1 hcm1_1 hlm1_1 hcm2_1 hlm2_1 hcp0_1 hlp0_1 hcp1_1 hlp1_1 hcp2_1 hlp2_1 hcp3_1 hlp3_1 hb2
    go_wp2_with fail
    go_ret
    exact ⟨rfl, hK2⟩
  go_wp2_with (first | (refine wpList_blk_yes (t := 23) (T := 23) (by rfl) rfl rfl Tryd.underlying23 rfl (by kernel_rfl) hcf_1 ?_))
  (with_reducible refine (light_yes f v1 hf hlt).mono ?_)
  rintro e v2 ⟨rfl, hb2⟩
  have hK2 := bnx hK1 hb2 hK1.size
  have hcf_2 := hcf_1.below hb2 hlf_1
  have hlf_2 := Nat.lt_of_lt_of_le hlf_1 hb2.size
  have hcm_2 := hcm_1.below hb2 hlm_1
  have hlm_2 := Nat.lt_of_lt_of_le hlm_1 hb2.size
  have hcm0_2 := cell_bel hcm0_1 hb2 hlm0_1
  have hlm0_2 := Nat.lt_of_lt_of_le hlm0_1 hb2.size
  have hcm1_2 := cell_bel hcm1_1 hb2 hlm1_1
  have hlm1_2 := Nat.lt_of_lt_of_le hlm1_1 hb2.size
  have hcm2_2 := cell_bel hcm2_1 hb2 hlm2_1
  have hlm2_2 := Nat.lt_of_lt_of_le hlm2_1 hb2.size
  have hcp0_2 := cell_bel hcp0_1 hb2 hlp0_1
  have hlp0_2 := Nat.lt_of_lt_of_le hlp0_1 hb2.size
  have hcp1_2 := cell_bel hcp1_1 hb2 hlp1_1
  have hlp1_2 := Nat.lt_of_lt_of_le hlp1_1 hb2.size
  have hcp2_2 := cell_bel hcp2_1 hb2 hlp2_1
  have hlp2_2 := Nat.lt_of_lt_of_le hlp2_1 hb2.size
  have hcp3_2 := cell_bel hcp3_1 hb2 hlp3_1
  have hlp3_2 := Nat.lt_of_lt_of_le hlp3_1 hb2.size
  clear hK1 hcf_1 hlf_1 hcm_1 hlm_1 hcm0_1 hlm0_1 hcm1_1 hlm1_1 hcm2_1 hlm2_1 hcp0_1 hlp0_1 hcp1_1 hlp1_1 hcp2_1 hlp2_1 hcp3_1 hlp3_1 hb2
  by_cases hmd : f.made nsc nsl nd
  rotate_left 1
  · go_wp2_with (first | (refine wpList_blk_yes (t := 23) (T := 23) (by rfl) rfl rfl Tryd.underlying23 rfl (by kernel_rfl) hcf_2 ?_) | (refine wpList_blk_yes (t := 39) (T := 39) (by rfl) rfl rfl Tryd.underlying39 rfl (by kernel_rfl) hcm_2 ?_))
    (with_reducible refine (rmade_no f Asc Asl Asd nsc csc nsl csl nd cd v2 hf hmd).mono ?_)
    rintro e v3 ⟨rfl, hb3⟩
    have hK3 := bnx hK2 hb3 hK2.size
    have hcf_3 := hcf_2.below hb3 hlf_2
    have hlf_3 := Nat.lt_of_lt_of_le hlf_2 hb3.size
    have hcm_3 := hcm_2.below hb3 hlm_2
    have hlm_3 := Nat.lt_of_lt_of_le hlm_2 hb3.size
    have hcm0_3 := cell_bel hcm0_2 hb3 hlm0_2
    have hlm0_3 := Nat.lt_of_lt_of_le hlm0_2 hb3.size
    have hcm1_3 := cell_bel hcm1_2 hb3 hlm1_2
    have hlm1_3 := Nat.lt_of_lt_of_le hlm1_2 hb3.size
    have hcm2_3 := cell_bel hcm2_2 hb3 hlm2_2
    have hlm2_3 := Nat.lt_of_lt_of_le hlm2_2 hb3.size
    have hcp0_3 := cell_bel hcp0_2 hb3 hlp0_2
    have hlp0_3 := Nat.lt_of_lt_of_le hlp0_2 hb3.size
    have hcp1_3 := cell_bel hcp1_2 hb3 hlp1_2
    have hlp1_3 := Nat.lt_of_lt_of_le hlp1_2 hb3.size
    have hcp2_3 := cell_bel hcp2_2 hb3 hlp2_2
    have hlp2_3 := Nat.lt_of_lt_of_le hlp2_2 hb3.size
    have hcp3_3 := cell_bel hcp3_2 hb3 hlp3_2
    have hlp3_3 := Nat.lt_of_lt_of_le hlp3_2 hb3.size
    clear hK2 hcf_2 hlf_2 hcm_2 hlm_2 hcm0_2 hlm0_2 hcm1_2 hlm1_2 hcm2_2 hlm2_2 hcp0_2 hlp0_2 hcp1_2 hlp1_2 hcp2_2 hlp2_2 hcp3_2 hlp3_2 hb3
    go_wp2_with fail
    go_ret
    exact ⟨rfl, hK3⟩
  go_wp2_with (first | (refine wpList_blk_yes (t := 23) (T := 23) (by rfl) rfl rfl Tryd.underlying23 rfl (by kernel_rfl) hcf_2 ?_) | (refine wpList_blk_yes (t := 39) (T := 39) (by rfl) rfl rfl Tryd.underlying39 rfl (by kernel_rfl) hcm_2 ?_))
  (with_reducible refine (rmade_yes f Asc Asl Asd nsc csc nsl csl nd cd v2 hf hmd).mono ?_)
  rintro e v3 ⟨rfl, hb3⟩
  have hK3 := bnx hK2 hb3 hK2.size
  have hcf_3 := hcf_2.below hb3 hlf_2
  have hlf_3 := Nat.lt_of_lt_of_le hlf_2 hb3.size
  have hcm_3 := hcm_2.below hb3 hlm_2
  have hlm_3 := Nat.lt_of_lt_of_le hlm_2 hb3.size
  have hcm0_3 := cell_bel hcm0_2 hb3 hlm0_2
  have hlm0_3 := Nat.lt_of_lt_of_le hlm0_2 hb3.size
  have hcm1_3 := cell_bel hcm1_2 hb3 hlm1_2
  have hlm1_3 := Nat.lt_of_lt_of_le hlm1_2 hb3.size
  have hcm2_3 := cell_bel hcm2_2 hb3 hlm2_2
  have hlm2_3 := Nat.lt_of_lt_of_le hlm2_2 hb3.size
  have hcp0_3 := cell_bel hcp0_2 hb3 hlp0_2
  have hlp0_3 := Nat.lt_of_lt_of_le hlp0_2 hb3.size
  have hcp1_3 := cell_bel hcp1_2 hb3 hlp1_2
  have hlp1_3 := Nat.lt_of_lt_of_le hlp1_2 hb3.size
  have hcp2_3 := cell_bel hcp2_2 hb3 hlp2_2
  have hlp2_3 := Nat.lt_of_lt_of_le hlp2_2 hb3.size
  have hcp3_3 := cell_bel hcp3_2 hb3 hlp3_2
  have hlp3_3 := Nat.lt_of_lt_of_le hlp3_2 hb3.size
  clear hK2 hcf_2 hlf_2 hcm_2 hlm_2 hcm0_2 hlm0_2 hcm1_2 hlm1_2 hcm2_2 hlm2_2 hcp0_2 hlp0_2 hcp1_2 hlp1_2 hcp2_2 hlp2_2 hcp3_2 hlp3_2 hb3
  obtain ⟨kn, hkn⟩ : ∃ n : Nat, f.k = n := ⟨_, hmd.may.nk⟩
  obtain ⟨an, han⟩ : ∃ n : Nat, f.a = n := ⟨_, hmd.may.na⟩
  have hfd := hmd.d
  have hk3 := hcf_3.cell 3 (.int .i64 f.k) rfl
  have hk4 := hcf_3.cell 4 (.int .i64 f.a) rfl
  have hk0 := hcf_3.cell 0 (.int .i64 f.n) rfl
  rw [hkn] at hk3
  rw [han] at hk4
  rw [← hfd] at hk0
  have hlk3 := hlf_3
  have hlk4 := hlf_3
  have hlk0 := hlf_3
  have hsz := hmd.szd hnsd
  have hk40 : kn ≤ 40 := by have := hmd.may.k; omega
  have ha6 : an ≤ 6 := by have := hmd.a; omega
  have hn32 : nd ≤ 32 := by have := hmd.may.n; omega
  have hnc : nsc ≤ 32 := by have := hmd.c; omega
  have HFD := Lib.hid hfd
  clear hfd
  by_cases hgb : 300 < L
  · have hgbI : (300 : Int) < (L : Int) := by omega
    go_wp2_with fail
    go_ret
    exact ⟨rfl, hK3⟩
  have hgbI : ¬ (300 : Int) < (L : Int) := by omega
  obtain ⟨P, hP⟩ : ∃ P, kn * an = P := ⟨_, rfl⟩
  have hP240 : P ≤ 240 := by rw [← hP]; exact Nat.le_trans (Nat.mul_le_mul hk40 ha6) (by decide)
  by_cases hs8 : 8 * L < P
  · have hl8 : (8 : Int) * (L : Int) < (P : Int) := by omega
    have hw := mulk kn an P hP (Nat.le_trans hP240 (by decide))
    clear hP hs8
    go_wp2_with fail
    go_ret
    exact ⟨rfl, hK3⟩
  have hl8 : (decide ((8 : Int) * (L : Int) < wrap64 ((kn : Int) * (an : Int)))) = false := by rw [mulk kn an P hP (Nat.le_trans hP240 (by decide))]; exact decide_eq_false (by omega)
  obtain ⟨pa, hpa⟩ : ∃ p, kn * (an + 1) = p := ⟨_, rfl⟩
  obtain ⟨MT, hMT⟩ : ∃ p, nd * ((an + 1) * kn) = p := ⟨_, rfl⟩
  have hp280 : pa ≤ 280 := by rw [← hpa]; exact Nat.le_trans (Nat.mul_le_mul hk40 (show an + 1 ≤ 7 by omega)) (by decide)
  have hM8 : MT ≤ 8960 := by rw [← hMT]; exact Nat.le_trans (Nat.mul_le_mul hn32 (Nat.mul_le_mul (show an + 1 ≤ 7 by omega) hk40)) (by decide)
  have hMe : pa * nd = MT := by rw [← hpa, ← hMT, Nat.mul_comm nd, Nat.mul_comm kn]
  have hMk : MT = kn * ((an + 1) * nd) := by rw [← hMe, ← hpa, Nat.mul_assoc]
  have hnot : ¬ 8 * L < kn * an := by rw [hP]; exact hs8
  have hql : (tellS f.n sd sec tree q bt an kn).length = MT := by rw [tellS_len hsz, hnsd, hMT]
  have hqw := stands_whole hsz sec tree q bt an kn (by omega) hk40
  rw [hnsd] at hqw
  have HMT := Lib.hid (And.intro hMT (And.intro hMe (And.intro hpa hMk)))
  have HNOT := Lib.hid hnot
  have HQ := Lib.hid (And.intro hql hqw)
  have HP := Lib.hid hP
  clear hMT hMe hMk hpa hnot hql hqw hP hs8
  go_upto_region 5 with fail
  clear hl8
  go_wp2_with (first | (refine wpList_blk_yes (t := 23) (T := 23) (by rfl) rfl rfl Tryd.underlying23 rfl (by kernel_rfl) hcf_3 ?_) | (refine wpList_blk_yes (t := 39) (T := 39) (by rfl) rfl rfl Tryd.underlying39 rfl (by kernel_rfl) hcm_3 ?_))
  (with_reducible refine (tell_any f kn an hkn han hf sec sd bt Asc Asl Asd Ab nsc csc nsl csl nd cd L cb tree q v3 hU hq hmd (hsd.bel hK3) hnsd hcsd hbsd (hsc.bel hK3) hnsc hcsc hbsc (hb.bel hK3) hnb hcb (by omega) hbb HNOT.out (hT.bel hK3)).mono ?_)
  rintro e v4 ⟨Aq, cq, rfl, hF4, hhq, hb4⟩
  have hK4 := bnx hK3 hb4 hK3.size
  have hcf_4 := hcf_3.below hb4 hlf_3
  have hlf_4 := Nat.lt_of_lt_of_le hlf_3 hb4.size
  have hcm_4 := hcm_3.below hb4 hlm_3
  have hlm_4 := Nat.lt_of_lt_of_le hlm_3 hb4.size
  have hcm0_4 := cell_bel hcm0_3 hb4 hlm0_3
  have hlm0_4 := Nat.lt_of_lt_of_le hlm0_3 hb4.size
  have hcm1_4 := cell_bel hcm1_3 hb4 hlm1_3
  have hlm1_4 := Nat.lt_of_lt_of_le hlm1_3 hb4.size
  have hcm2_4 := cell_bel hcm2_3 hb4 hlm2_3
  have hlm2_4 := Nat.lt_of_lt_of_le hlm2_3 hb4.size
  have hcp0_4 := cell_bel hcp0_3 hb4 hlp0_3
  have hlp0_4 := Nat.lt_of_lt_of_le hlp0_3 hb4.size
  have hcp1_4 := cell_bel hcp1_3 hb4 hlp1_3
  have hlp1_4 := Nat.lt_of_lt_of_le hlp1_3 hb4.size
  have hcp2_4 := cell_bel hcp2_3 hb4 hlp2_3
  have hlp2_4 := Nat.lt_of_lt_of_le hlp2_3 hb4.size
  have hcp3_4 := cell_bel hcp3_3 hb4 hlp3_3
  have hlp3_4 := Nat.lt_of_lt_of_le hlp3_3 hb4.size
  have hck3_4 := cell_bel hk3 hb4 hlk3
  have hlk3_4 := Nat.lt_of_lt_of_le hlk3 hb4.size
  have hck4_4 := cell_bel hk4 hb4 hlk4
  have hlk4_4 := Nat.lt_of_lt_of_le hlk4 hb4.size
  have hck0_4 := cell_bel hk0 hb4 hlk0
  have hlk0_4 := Nat.lt_of_lt_of_le hlk0 hb4.size
  rw [HMT.out.1] at hhq
  rw [HMT.out.1]
  have hRT := hF4
  have hBT_4 := Below.refl v4.heap.size v4
  clear hK3 hcf_3 hlf_3 hcm_3 hlm_3 hcm0_3 hlm0_3 hcm1_3 hlm1_3 hcm2_3 hlm2_3 hcp0_3 hlp0_3 hcp1_3 hlp1_3 hcp2_3 hlp2_3 hcp3_3 hlp3_3 hk3 hlk3 hk4 hlk4 hk0 hlk0 hb4 hF4
  go_wp2_with (first | (refine wpList_blk_yes (t := 23) (T := 23) (by rfl) rfl rfl Tryd.underlying23 rfl (by kernel_rfl) hcf_4 ?_))
  (with_reducible refine (stands_any f kn an hkn han hf Asd Ab Aq nd cd L cb MT cq tree q v4 sd (tellS f.n sd sec tree q bt an kn) hU hq hmd.may bt (hb.bel hK4) hnb hcb (by omega) hbb HNOT.out hsz (hsd.bel hK4) hnsd hcsd hbsd (hRT.bel hBT_4) HQ.out.1 hhq (tellS_B _ _ _ _ _ _ _ _) HMT.out.2.2.2 (hT.bel hK4)).mono ?_)
  rintro e v5 ⟨Az, cz, rfl, hF5, hhz, hb5⟩
  have hK5 := bnx hK4 hb5 hK4.size
  have hBT_5 := bnx hBT_4 hb5 hBT_4.size
  have hcf_5 := hcf_4.below hb5 hlf_4
  have hlf_5 := Nat.lt_of_lt_of_le hlf_4 hb5.size
  have hcm_5 := hcm_4.below hb5 hlm_4
  have hlm_5 := Nat.lt_of_lt_of_le hlm_4 hb5.size
  have hcm0_5 := cell_bel hcm0_4 hb5 hlm0_4
  have hlm0_5 := Nat.lt_of_lt_of_le hlm0_4 hb5.size
  have hcm1_5 := cell_bel hcm1_4 hb5 hlm1_4
  have hlm1_5 := Nat.lt_of_lt_of_le hlm1_4 hb5.size
  have hcm2_5 := cell_bel hcm2_4 hb5 hlm2_4
  have hlm2_5 := Nat.lt_of_lt_of_le hlm2_4 hb5.size
  have hcp0_5 := cell_bel hcp0_4 hb5 hlp0_4
  have hlp0_5 := Nat.lt_of_lt_of_le hlp0_4 hb5.size
  have hcp1_5 := cell_bel hcp1_4 hb5 hlp1_4
  have hlp1_5 := Nat.lt_of_lt_of_le hlp1_4 hb5.size
  have hcp2_5 := cell_bel hcp2_4 hb5 hlp2_4
  have hlp2_5 := Nat.lt_of_lt_of_le hlp2_4 hb5.size
  have hcp3_5 := cell_bel hcp3_4 hb5 hlp3_4
  have hlp3_5 := Nat.lt_of_lt_of_le hlp3_4 hb5.size
  have hck3_5 := cell_bel hck3_4 hb5 hlk3_4
  have hlk3_5 := Nat.lt_of_lt_of_le hlk3_4 hb5.size
  have hck4_5 := cell_bel hck4_4 hb5 hlk4_4
  have hlk4_5 := Nat.lt_of_lt_of_le hlk4_4 hb5.size
  have hck0_5 := cell_bel hck0_4 hb5 hlk0_4
  have hlk0_5 := Nat.lt_of_lt_of_le hlk0_4 hb5.size
  have hRZ := hF5
  have hBZ_5 := Below.refl v5.heap.size v5
  clear hK4 hBT_4 hcf_4 hlf_4 hcm_4 hlm_4 hcm0_4 hlm0_4 hcm1_4 hlm1_4 hcm2_4 hlm2_4 hcp0_4 hlp0_4 hcp1_4 hlp1_4 hcp2_4 hlp2_4 hcp3_4 hlp3_4 hck3_4 hlk3_4 hck4_4 hlk4_4 hck0_4 hlk0_4 hb5 hF5
  rw [HQ.out.2] at hRZ
  have htt : ((MT : Int) == wrap64 (wrap64 ((kn : Int) * ((an : Int) + 1)) * (nd : Int))) = true := by rw [mul3 kn an nd pa MT HMT.out.2.2.1 HMT.out.2.1 (by omega) (by omega)]; exact beq_self_eq_true _
  go_wp2_with (first | (refine wpList_blk_yes (t := 23) (T := 23) (by rfl) rfl rfl Tryd.underlying23 rfl (by kernel_rfl) hcf_5 ?_) | (refine wpList_blk_yes (t := 39) (T := 39) (by rfl) rfl rfl Tryd.underlying39 rfl (by kernel_rfl) hcm_5 ?_))
  (with_reducible refine (whole_any f kn an hkn han hf sec sd Asc Asl Asd nsc csc nsl csl nd cd tree q v5 hU hq hmd (hsd.bel hK5) hnsd hcsd hbsd (hsc.bel hK5) hnsc hcsc hbsc (hT.bel hK5)).mono ?_)
  rintro e v6 ⟨Aw, cw, rfl, hF6, hhw, hb6⟩
  have hK6 := bnx hK5 hb6 hK5.size
  have hBT_6 := bnx hBT_5 hb6 hBT_5.size
  have hBZ_6 := bnx hBZ_5 hb6 hBZ_5.size
  have hcf_6 := hcf_5.below hb6 hlf_5
  have hlf_6 := Nat.lt_of_lt_of_le hlf_5 hb6.size
  have hcm_6 := hcm_5.below hb6 hlm_5
  have hlm_6 := Nat.lt_of_lt_of_le hlm_5 hb6.size
  have hcm0_6 := cell_bel hcm0_5 hb6 hlm0_5
  have hlm0_6 := Nat.lt_of_lt_of_le hlm0_5 hb6.size
  have hcm1_6 := cell_bel hcm1_5 hb6 hlm1_5
  have hlm1_6 := Nat.lt_of_lt_of_le hlm1_5 hb6.size
  have hcm2_6 := cell_bel hcm2_5 hb6 hlm2_5
  have hlm2_6 := Nat.lt_of_lt_of_le hlm2_5 hb6.size
  have hcp0_6 := cell_bel hcp0_5 hb6 hlp0_5
  have hlp0_6 := Nat.lt_of_lt_of_le hlp0_5 hb6.size
  have hcp1_6 := cell_bel hcp1_5 hb6 hlp1_5
  have hlp1_6 := Nat.lt_of_lt_of_le hlp1_5 hb6.size
  have hcp2_6 := cell_bel hcp2_5 hb6 hlp2_5
  have hlp2_6 := Nat.lt_of_lt_of_le hlp2_5 hb6.size
  have hcp3_6 := cell_bel hcp3_5 hb6 hlp3_5
  have hlp3_6 := Nat.lt_of_lt_of_le hlp3_5 hb6.size
  have hck3_6 := cell_bel hck3_5 hb6 hlk3_5
  have hlk3_6 := Nat.lt_of_lt_of_le hlk3_5 hb6.size
  have hck4_6 := cell_bel hck4_5 hb6 hlk4_5
  have hlk4_6 := Nat.lt_of_lt_of_le hlk4_5 hb6.size
  have hck0_6 := cell_bel hck0_5 hb6 hlk0_5
  have hlk0_6 := Nat.lt_of_lt_of_le hlk0_5 hb6.size
  have hRW := hF6
  have hBW_6 := Below.refl v6.heap.size v6
  clear hK5 hBT_5 hBZ_5 hcf_5 hlf_5 hcm_5 hlm_5 hcm0_5 hlm0_5 hcm1_5 hlm1_5 hcm2_5 hlm2_5 hcp0_5 hlp0_5 hcp1_5 hlp1_5 hcp2_5 hlp2_5 hcp3_5 hlp3_5 hck3_5 hlk3_5 hck4_5 hlk4_5 hck0_5 hlk0_5 hb6 hF6
  go_wp2_with fail
  (with_reducible refine (same_is_b v6 Az Aw (wholeL f.n sd sec tree q an kn) nd cz cw (hRZ.bel hBZ_6) (hRW.bel hBW_6) (by unfold wholeL; rw [atL_nd hsz, hnsd]) (by omega)).mono ?_)
  rintro e v7 ⟨rfl, hb7⟩
  have hK7 := bnx hK6 hb7 hK6.size
  have hBT_7 := bnx hBT_6 hb7 hBT_6.size
  have hBZ_7 := bnx hBZ_6 hb7 hBZ_6.size
  have hBW_7 := bnx hBW_6 hb7 hBW_6.size
  have hcf_7 := hcf_6.below hb7 hlf_6
  have hlf_7 := Nat.lt_of_lt_of_le hlf_6 hb7.size
  have hcm_7 := hcm_6.below hb7 hlm_6
  have hlm_7 := Nat.lt_of_lt_of_le hlm_6 hb7.size
  have hcm0_7 := cell_bel hcm0_6 hb7 hlm0_6
  have hlm0_7 := Nat.lt_of_lt_of_le hlm0_6 hb7.size
  have hcm1_7 := cell_bel hcm1_6 hb7 hlm1_6
  have hlm1_7 := Nat.lt_of_lt_of_le hlm1_6 hb7.size
  have hcm2_7 := cell_bel hcm2_6 hb7 hlm2_6
  have hlm2_7 := Nat.lt_of_lt_of_le hlm2_6 hb7.size
  have hcp0_7 := cell_bel hcp0_6 hb7 hlp0_6
  have hlp0_7 := Nat.lt_of_lt_of_le hlp0_6 hb7.size
  have hcp1_7 := cell_bel hcp1_6 hb7 hlp1_6
  have hlp1_7 := Nat.lt_of_lt_of_le hlp1_6 hb7.size
  have hcp2_7 := cell_bel hcp2_6 hb7 hlp2_6
  have hlp2_7 := Nat.lt_of_lt_of_le hlp2_6 hb7.size
  have hcp3_7 := cell_bel hcp3_6 hb7 hlp3_6
  have hlp3_7 := Nat.lt_of_lt_of_le hlp3_6 hb7.size
  have hck3_7 := cell_bel hck3_6 hb7 hlk3_6
  have hlk3_7 := Nat.lt_of_lt_of_le hlk3_6 hb7.size
  have hck4_7 := cell_bel hck4_6 hb7 hlk4_6
  have hlk4_7 := Nat.lt_of_lt_of_le hlk4_6 hb7.size
  have hck0_7 := cell_bel hck0_6 hb7 hlk0_6
  have hlk0_7 := Nat.lt_of_lt_of_le hlk0_6 hb7.size
  clear hK6 hBT_6 hBZ_6 hBW_6 hcf_6 hlf_6 hcm_6 hlm_6 hcm0_6 hlm0_6 hcm1_6 hlm1_6 hcm2_6 hlm2_6 hcp0_6 hlp0_6 hcp1_6 hlp1_6 hcp2_6 hlp2_6 hcp3_6 hlp3_6 hck3_6 hlk3_6 hck4_6 hlk4_6 hck0_6 hlk0_6 hb7
  go_wp2_with fail
  go_ret
  exact ⟨rfl, hK7⟩
end Go.Proofs.YtfaonieaagepjaaDoor
