/- AdrsMasked, walked. Conditions: what is read reads as bytes; the tables. -/
import Derived.Test.YtfaonieaagepjaaDoorA4K
import Derived.Test.YtfaonieaagepjaaDoorA4L
import Derived.Test.YtfaonieaagepjaaDoorLp
namespace Go.Proofs.YtfaonieaagepjaaDoor
open Go.RowKit
set_option linter.unusedVariables false
set_option linter.unusedSimpArgs false
theorem xorP (x s : List Int) (d : Ad) (k : Int) : xorL (x.take 32) ((prfL s (adB d k)).take 32) = xorL (x.take 32) (prfL s (adB d k)) := by rw [List.take_of_length_le (l := prfL s (adB d k)) (by rw [prfL_len]; exact Nat.le_refl _)]
set_option maxRecDepth 100000 in
set_option maxHeartbeats 8000000 in
theorem adrsMasked_walk (d : Ad) (seed key xl yl : List Int) (As Ak Ax Ay : Option Addr) (cs ck cx cy : Nat) (w : World) (hd : d.ok) (hs : Rd w w.heap.size .u8 As seed) (hcs : seed.length ≤ cs) (hms : cs ≤ 9223372036854775807) (hbs : Bys seed) (hk : Rd w w.heap.size .u8 Ak key) (hck : key.length ≤ ck) (hmk : ck ≤ 9223372036854775807) (hbk : Bys key) (hx : Rd w w.heap.size .u8 Ax xl) (hcx : xl.length ≤ cx) (hmx : cx ≤ 9223372036854775807) (hbx : Bys xl) (hy : Rd w w.heap.size .u8 Ay yl) (hcy : yl.length ≤ cy) (hmy : cy ≤ 9223372036854775807) (hby : Bys yl) (hS : S2Tb w) (hKT : KTab w) :
    Calls Tryd.prog 11 #[.agg d.cs, .agg #[.slice As seed.length cs, .slice Ak key.length ck, .slice Ax xl.length cx, .slice Ay yl.length cy]] w fun e w' => e = .returned (.bool true) ∧ Below w.heap.size w w' := by
  obtain ⟨ns, hns⟩ : ∃ n, seed.length = n := ⟨_, rfl⟩
  rw [hns] at hcs ⊢
  obtain ⟨nk, hnk⟩ : ∃ n, key.length = n := ⟨_, rfl⟩
  rw [hnk] at hck ⊢
  obtain ⟨nx, hnx⟩ : ∃ n, xl.length = n := ⟨_, rfl⟩
  rw [hnx] at hcx ⊢
  obtain ⟨ny, hny⟩ : ∃ n, yl.length = n := ⟨_, rfl⟩
  rw [hny] at hcy ⊢
  have hmx : (200000000 : Nat) ≤ maxLen := by decide
  have hXd := (Blk.new w 46 d.cs).alloc (.cells #[.slice As ns cs, .slice Ak nk ck, .slice Ax nx cx, .slice Ay ny cy] 49)
  have hXx := Blk.new (w.alloc (.cells d.cs 46)) 49 #[.slice As ns cs, .slice Ak nk ck, .slice Ax nx cx, .slice Ay ny cy]
  have hKx := bal (bal (Below.refl w.heap.size w) (Nat.le_refl _) (.cells d.cs 46)) (by simp) (.cells #[.slice As ns cs, .slice Ak nk ck, .slice Ax nx cx, .slice Ay ny cy] 49)
  have hz1 : (w.alloc (.cells d.cs 46)).heap.size = w.heap.size + 1 := by simp
  go_enter Tryd.func11, Tryd.ntmps11
  go_upto_region 1 with fail
  change Code.wp _ _ _ _ ((w.alloc (.cells d.cs 46)).alloc (.cells #[.slice As ns cs, .slice Ak nk ck, .slice Ax nx cx, .slice Ay ny cy] 49))
  generalize ((w.alloc (.cells d.cs 46)).alloc (.cells #[.slice As ns cs, .slice Ak nk ck, .slice Ax nx cx, .slice Ay ny cy] 49)) = w0 at hXd hXx hKx ⊢
  rw [hz1] at hXx
  clear hz1
  have hx0 := hXx.cell 0 _ rfl
  have hx2 := hXx.cell 2 _ rfl
  have hx3 := hXx.cell 3 _ rfl
  have hlx0 := hXx.lt
  have hlx2 := hlx0
  have hlx3 := hlx0
  have hld := hXd.lt
  clear hXx
  go_wp2_with fail
  (with_reducible refine (awake14_any w0 (hS.below hKx (Nat.le_refl _)) (hKT.bel hKx)).mono ?_)
  rintro e v1 ⟨rfl, hb1⟩
  have hK1 := bnx hKx hb1 hKx.size
  have hcd_1 := hXd.below hb1 hld
  have hld_1 := Nat.lt_of_lt_of_le hld hb1.size
  have hcs_1 := cell_bel hx0 hb1 hlx0
  have hls_1 := Nat.lt_of_lt_of_le hlx0 hb1.size
  have hcx_1 := cell_bel hx2 hb1 hlx2
  have hlx_1 := Nat.lt_of_lt_of_le hlx2 hb1.size
  have hcy_1 := cell_bel hx3 hb1 hlx3
  have hly_1 := Nat.lt_of_lt_of_le hlx3 hb1.size
  clear hKx hXd hld hx0 hlx0 hx2 hlx2 hx3 hlx3 hb1
  by_cases hgs : ns < 32
  · have hgsI : (ns : Int) < (32 : Int) := by omega
    go_wp2_with fail
    go_ret
    exact ⟨rfl, hK1⟩
  have hgsI : ¬ (ns : Int) < (32 : Int) := by omega
  by_cases hgx : nx < 32
  · have hgxI : (nx : Int) < (32 : Int) := by omega
    go_wp2_with fail
    go_ret
    exact ⟨rfl, hK1⟩
  have hgxI : ¬ (nx : Int) < (32 : Int) := by omega
  by_cases hgy : ny < 32
  · have hgyI : (ny : Int) < (32 : Int) := by omega
    go_wp2_with fail
    go_ret
    exact ⟨rfl, hK1⟩
  have hgyI : ¬ (ny : Int) < (32 : Int) := by omega
  by_cases hgz : 500 < nx
  · have hgzI : (500 : Int) < (nx : Int) := by omega
    go_wp2_with fail
    go_ret
    exact ⟨rfl, hK1⟩
  have hgzI : ¬ (500 : Int) < (nx : Int) := by omega
  have hzsI : ¬ (cs : Int) < (32 : Int) := by omega
  have hzxI : ¬ (cx : Int) < (32 : Int) := by omega
  have hzyI : ¬ (cy : Int) < (32 : Int) := by omega
  have hs32 := hs.tk 32
  have hx32 := hx.tk 32
  have hy32 := hy.tk 32
  have hls : (seed.take 32).length = 32 := by rw [List.length_take]; omega
  have hBs : Bys (seed.take 32) := hbs.take 32
  have hCs : 32 ≤ cs := by omega
  have hlx : (xl.take 32).length = 32 := by rw [List.length_take]; omega
  have hBx : Bys (xl.take 32) := hbx.take 32
  have hCx : 32 ≤ cx := by omega
  have hly : (yl.take 32).length = 32 := by rw [List.length_take]; omega
  have hBy : Bys (yl.take 32) := hby.take 32
  have hCy : 32 ≤ cy := by omega
  go_wp2_with (refine wpList_blk_yes (t := 46) (T := 46) (by rfl) rfl rfl Tryd.underlying46 rfl (by kernel_rfl) hcd_1 ?_)
  (with_reducible refine (bytes_any d 0 v1 hd (W32.small (by decide) (by decide))).mono ?_)
  rintro e v2 ⟨A2, c2, rfl, hF2, hb2⟩
  have hK2 := bnx hK1 hb2 hK1.size
  have hcd_2 := hcd_1.below hb2 hld_1
  have hld_2 := Nat.lt_of_lt_of_le hld_1 hb2.size
  have hcs_2 := cell_bel hcs_1 hb2 hls_1
  have hls_2 := Nat.lt_of_lt_of_le hls_1 hb2.size
  have hcx_2 := cell_bel hcx_1 hb2 hlx_1
  have hlx_2 := Nat.lt_of_lt_of_le hlx_1 hb2.size
  have hcy_2 := cell_bel hcy_1 hb2 hly_1
  have hly_2 := Nat.lt_of_lt_of_le hly_1 hb2.size
  have hcB : 32 ≤ c2 := by have := hF2.cap; rw [adB_len] at this; exact this
  have hRB := hF2.rd
  have hBB_2 := Below.refl v2.heap.size v2
  clear hK1 hcd_1 hld_1 hcs_1 hls_1 hcx_1 hlx_1 hcy_1 hly_1 hb2 hF2
  go_wp2_with (refine wpList_blk_yes (t := 46) (T := 46) (by rfl) rfl rfl Tryd.underlying46 rfl (by kernel_rfl) hcd_2 ?_)
  (with_reducible refine (prf_any (seed.take 32) (adB d 0) As A2 32 cs 32 c2 v2 (hs32.bel hK2) hls hCs (by decide) hBs (hRB.bel hBB_2) (adB_len _ _) hcB (by decide) (adB_B _ _) (hS.below hK2 (Nat.le_refl _))).mono ?_)
  rintro e v3 ⟨A3, c3, rfl, hF3, hb3⟩
  have hK3 := bnx hK2 hb3 hK2.size
  have hBB_3 := bnx hBB_2 hb3 hBB_2.size
  have hcd_3 := hcd_2.below hb3 hld_2
  have hld_3 := Nat.lt_of_lt_of_le hld_2 hb3.size
  have hcs_3 := cell_bel hcs_2 hb3 hls_2
  have hls_3 := Nat.lt_of_lt_of_le hls_2 hb3.size
  have hcx_3 := cell_bel hcx_2 hb3 hlx_2
  have hlx_3 := Nat.lt_of_lt_of_le hlx_2 hb3.size
  have hcy_3 := cell_bel hcy_2 hb3 hly_2
  have hly_3 := Nat.lt_of_lt_of_le hly_2 hb3.size
  have hca : 32 ≤ c3 := by have := hF3.cap; rw [prfL_len] at this; exact this
  have hRa := hF3.rd
  have hBa_3 := Below.refl v3.heap.size v3
  clear hK2 hBB_2 hcd_2 hld_2 hcs_2 hls_2 hcx_2 hlx_2 hcy_2 hly_2 hb3 hF3
  clear hRB hcB hBB_3
  go_wp2_with (refine wpList_blk_yes (t := 46) (T := 46) (by rfl) rfl rfl Tryd.underlying46 rfl (by kernel_rfl) hcd_3 ?_)
  (with_reducible refine (bytes_any d 1 v3 hd (W32.small (by decide) (by decide))).mono ?_)
  rintro e v4 ⟨A4, c4, rfl, hF4, hb4⟩
  have hK4 := bnx hK3 hb4 hK3.size
  have hBa_4 := bnx hBa_3 hb4 hBa_3.size
  have hcd_4 := hcd_3.below hb4 hld_3
  have hld_4 := Nat.lt_of_lt_of_le hld_3 hb4.size
  have hcs_4 := cell_bel hcs_3 hb4 hls_3
  have hls_4 := Nat.lt_of_lt_of_le hls_3 hb4.size
  have hcx_4 := cell_bel hcx_3 hb4 hlx_3
  have hlx_4 := Nat.lt_of_lt_of_le hlx_3 hb4.size
  have hcy_4 := cell_bel hcy_3 hb4 hly_3
  have hly_4 := Nat.lt_of_lt_of_le hly_3 hb4.size
  have hcB : 32 ≤ c4 := by have := hF4.cap; rw [adB_len] at this; exact this
  have hRB := hF4.rd
  have hBB_4 := Below.refl v4.heap.size v4
  clear hK3 hBa_3 hcd_3 hld_3 hcs_3 hls_3 hcx_3 hlx_3 hcy_3 hly_3 hb4 hF4
  go_wp2_with (refine wpList_blk_yes (t := 46) (T := 46) (by rfl) rfl rfl Tryd.underlying46 rfl (by kernel_rfl) hcd_4 ?_)
  (with_reducible refine (prf_any (seed.take 32) (adB d 1) As A4 32 cs 32 c4 v4 (hs32.bel hK4) hls hCs (by decide) hBs (hRB.bel hBB_4) (adB_len _ _) hcB (by decide) (adB_B _ _) (hS.below hK4 (Nat.le_refl _))).mono ?_)
  rintro e v5 ⟨A5, c5, rfl, hF5, hb5⟩
  have hK5 := bnx hK4 hb5 hK4.size
  have hBa_5 := bnx hBa_4 hb5 hBa_4.size
  have hBB_5 := bnx hBB_4 hb5 hBB_4.size
  have hcd_5 := hcd_4.below hb5 hld_4
  have hld_5 := Nat.lt_of_lt_of_le hld_4 hb5.size
  have hcs_5 := cell_bel hcs_4 hb5 hls_4
  have hls_5 := Nat.lt_of_lt_of_le hls_4 hb5.size
  have hcx_5 := cell_bel hcx_4 hb5 hlx_4
  have hlx_5 := Nat.lt_of_lt_of_le hlx_4 hb5.size
  have hcy_5 := cell_bel hcy_4 hb5 hly_4
  have hly_5 := Nat.lt_of_lt_of_le hly_4 hb5.size
  have hcb : 32 ≤ c5 := by have := hF5.cap; rw [prfL_len] at this; exact this
  have hRb := hF5.rd
  have hBb_5 := Below.refl v5.heap.size v5
  clear hK4 hBa_4 hBB_4 hcd_4 hld_4 hcs_4 hls_4 hcx_4 hlx_4 hcy_4 hly_4 hb5 hF5
  clear hRB hcB hBB_5
  go_wp2_with (refine wpList_blk_yes (t := 46) (T := 46) (by rfl) rfl rfl Tryd.underlying46 rfl (by kernel_rfl) hcd_5 ?_)
  (with_reducible refine (bytes_any d 2 v5 hd (W32.small (by decide) (by decide))).mono ?_)
  rintro e v6 ⟨A6, c6, rfl, hF6, hb6⟩
  have hK6 := bnx hK5 hb6 hK5.size
  have hBa_6 := bnx hBa_5 hb6 hBa_5.size
  have hBb_6 := bnx hBb_5 hb6 hBb_5.size
  have hcd_6 := hcd_5.below hb6 hld_5
  have hld_6 := Nat.lt_of_lt_of_le hld_5 hb6.size
  have hcs_6 := cell_bel hcs_5 hb6 hls_5
  have hls_6 := Nat.lt_of_lt_of_le hls_5 hb6.size
  have hcx_6 := cell_bel hcx_5 hb6 hlx_5
  have hlx_6 := Nat.lt_of_lt_of_le hlx_5 hb6.size
  have hcy_6 := cell_bel hcy_5 hb6 hly_5
  have hly_6 := Nat.lt_of_lt_of_le hly_5 hb6.size
  have hcB : 32 ≤ c6 := by have := hF6.cap; rw [adB_len] at this; exact this
  have hRB := hF6.rd
  have hBB_6 := Below.refl v6.heap.size v6
  clear hK5 hBa_5 hBb_5 hcd_5 hld_5 hcs_5 hls_5 hcx_5 hlx_5 hcy_5 hly_5 hb6 hF6
  go_wp2_with (refine wpList_blk_yes (t := 46) (T := 46) (by rfl) rfl rfl Tryd.underlying46 rfl (by kernel_rfl) hcd_6 ?_)
  (with_reducible refine (prf_any (seed.take 32) (adB d 2) As A6 32 cs 32 c6 v6 (hs32.bel hK6) hls hCs (by decide) hBs (hRB.bel hBB_6) (adB_len _ _) hcB (by decide) (adB_B _ _) (hS.below hK6 (Nat.le_refl _))).mono ?_)
  rintro e v7 ⟨A7, c7, rfl, hF7, hb7⟩
  have hK7 := bnx hK6 hb7 hK6.size
  have hBa_7 := bnx hBa_6 hb7 hBa_6.size
  have hBb_7 := bnx hBb_6 hb7 hBb_6.size
  have hBB_7 := bnx hBB_6 hb7 hBB_6.size
  have hcd_7 := hcd_6.below hb7 hld_6
  have hld_7 := Nat.lt_of_lt_of_le hld_6 hb7.size
  have hcs_7 := cell_bel hcs_6 hb7 hls_6
  have hls_7 := Nat.lt_of_lt_of_le hls_6 hb7.size
  have hcx_7 := cell_bel hcx_6 hb7 hlx_6
  have hlx_7 := Nat.lt_of_lt_of_le hlx_6 hb7.size
  have hcy_7 := cell_bel hcy_6 hb7 hly_6
  have hly_7 := Nat.lt_of_lt_of_le hly_6 hb7.size
  have hcc : 32 ≤ c7 := by have := hF7.cap; rw [prfL_len] at this; exact this
  have hRc := hF7.rd
  have hBc_7 := Below.refl v7.heap.size v7
  clear hK6 hBa_6 hBb_6 hBB_6 hcd_6 hld_6 hcs_6 hls_6 hcx_6 hlx_6 hcy_6 hly_6 hb7 hF7
  clear hRB hcB hBB_7
  go_wp2_with (refine wpList_blk_yes (t := 46) (T := 46) (by rfl) rfl rfl Tryd.underlying46 rfl (by kernel_rfl) hcd_7 ?_)
  (with_reducible refine (turned_any xl (prfL (seed.take 32) (adB d 1)) Ax A5 nx cx 32 c5 v7 (hx.bel hK7) hnx (by omega) (hRb.bel hBb_7) (prfL_len _ _) (Nat.le_refl _)).mono ?_)
  rintro e v8 ⟨A8, c8, rfl, hF8, hb8⟩
  have hK8 := bnx hK7 hb8 hK7.size
  have hBa_8 := bnx hBa_7 hb8 hBa_7.size
  have hBb_8 := bnx hBb_7 hb8 hBb_7.size
  have hBc_8 := bnx hBc_7 hb8 hBc_7.size
  have hcd_8 := hcd_7.below hb8 hld_7
  have hld_8 := Nat.lt_of_lt_of_le hld_7 hb8.size
  have hcs_8 := cell_bel hcs_7 hb8 hls_7
  have hls_8 := Nat.lt_of_lt_of_le hls_7 hb8.size
  have hcx_8 := cell_bel hcx_7 hb8 hlx_7
  have hlx_8 := Nat.lt_of_lt_of_le hlx_7 hb8.size
  have hcy_8 := cell_bel hcy_7 hb8 hly_7
  have hly_8 := Nat.lt_of_lt_of_le hly_7 hb8.size
  have hcl : 32 ≤ c8 := by have := hF8.cap; rw [xorL32_len _ _ (by rw [List.length_take]; omega) (by rw [List.length_take, prfL_len]; rfl)] at this; exact this
  have hRl := (show Rd v8 v8.heap.size .u8 A8 (xorL (xl.take 32) (prfL (seed.take 32) (adB d 1))) from (xorP xl (seed.take 32) d 1) ▸ hF8.rd)
  have hBl_8 := Below.refl v8.heap.size v8
  clear hK7 hBa_7 hBb_7 hBc_7 hcd_7 hld_7 hcs_7 hls_7 hcx_7 hlx_7 hcy_7 hly_7 hb8 hF8
  clear hRb hBb_8 hcb
  have hll : (xorL (xl.take 32) (prfL (seed.take 32) (adB d 1))).length = 32 := xorL32_len _ _ hlx (prfL_len _ _)
  have hlr : (xorL (yl.take 32) (prfL (seed.take 32) (adB d 2))).length = 32 := xorL32_len _ _ hly (prfL_len _ _)
  go_wp2_with (refine wpList_blk_yes (t := 46) (T := 46) (by rfl) rfl rfl Tryd.underlying46 rfl (by kernel_rfl) hcd_8 ?_)
  (with_reducible refine (num_any 0 (prfL (seed.take 32) (adB d 0)) (xorL (xl.take 32) (prfL (seed.take 32) (adB d 1))) A3 A8 32 c3 32 c8 v8 (by unfold B8; decide) (hRa.bel hBa_8) (prfL_len _ _) hca (by decide) (prfL_B _ _) (hRl.bel hBl_8) hll hcl (by decide) (xorL_B _ _) (hS.below hK8 (Nat.le_refl _))).mono ?_)
  rintro e v9 ⟨A9, c9, rfl, hF9, hb9⟩
  have hK9 := bnx hK8 hb9 hK8.size
  have hBa_9 := bnx hBa_8 hb9 hBa_8.size
  have hBc_9 := bnx hBc_8 hb9 hBc_8.size
  have hBl_9 := bnx hBl_8 hb9 hBl_8.size
  have hcd_9 := hcd_8.below hb9 hld_8
  have hld_9 := Nat.lt_of_lt_of_le hld_8 hb9.size
  have hcs_9 := cell_bel hcs_8 hb9 hls_8
  have hls_9 := Nat.lt_of_lt_of_le hls_8 hb9.size
  have hcx_9 := cell_bel hcx_8 hb9 hlx_8
  have hlx_9 := Nat.lt_of_lt_of_le hlx_8 hb9.size
  have hcy_9 := cell_bel hcy_8 hb9 hly_8
  have hly_9 := Nat.lt_of_lt_of_le hly_8 hb9.size
  have hRf := hF9.rd
  have hBf_9 := Below.refl v9.heap.size v9
  clear hK8 hBa_8 hBc_8 hBl_8 hcd_8 hld_8 hcs_8 hls_8 hcx_8 hlx_8 hcy_8 hly_8 hb9 hF9
  go_upto_region 13 with (refine wpList_blk_yes (t := 46) (T := 46) (by rfl) rfl rfl Tryd.underlying46 rfl (by kernel_rfl) hcd_9 ?_)
  refine Ls.start (fun w' => Blk w' w.heap.size 46 d.cs ∧ w'.cell? ⟨w.heap.size + 1, 0, none⟩ = some (.slice As ns cs) ∧ w'.cell? ⟨w.heap.size + 1, 2, none⟩ = some (.slice Ax nx cx) ∧ w'.cell? ⟨w.heap.size + 1, 3, none⟩ = some (.slice Ay ny cy)) [(0, true), (2, true), (4, true), (5, true), (6, true), (1, false), (3, false), (7, false), (8, false), (9, false), (10, true)] (by kernel_rfl) (by kernel_rfl) (by kernel_rfl) (by kernel_rfl) ⟨hcd_9.drew, hcs_9, hcx_9, hcy_9⟩ ?_
  (refine Ls.val ?_ rfl (fun _ _ _ h => h) (by kernel_rfl) ?_ ?_; rotate_left 1; focus (intro w hw; go_simp; with_reducible rfl)); (try simp (config := {maxSteps := 2000000}) only [Act.put, List.getElem_toArray, List.getElem_cons_succ, List.getElem_cons_zero, List.setIfInBounds_toArray, List.set_cons_zero, List.set_cons_succ])
  (refine Ls.val ?_ rfl (fun _ _ _ h => h) (by kernel_rfl) ?_ ?_; rotate_left 1; focus (intro w hw; go_simp; with_reducible rfl)); (try simp (config := {maxSteps := 2000000}) only [Act.put, List.getElem_toArray, List.getElem_cons_succ, List.getElem_cons_zero, List.setIfInBounds_toArray, List.set_cons_zero, List.set_cons_succ])
  (refine Ls.val ?_ rfl (fun _ _ _ h => h) (by kernel_rfl) ?_ ?_; rotate_left 1; focus (intro w hw; go_simp; with_reducible rfl)); (try simp (config := {maxSteps := 2000000}) only [Act.put, List.getElem_toArray, List.getElem_cons_succ, List.getElem_cons_zero, List.setIfInBounds_toArray, List.set_cons_zero, List.set_cons_succ])
  (refine Ls.val ?_ rfl (fun _ _ _ h => h) (by kernel_rfl) ?_ ?_; rotate_left 1; focus (intro w hw; have hcell := hw.2.2.2; go_simp; with_reducible rfl)); (try simp (config := {maxSteps := 2000000}) only [Act.put, List.getElem_toArray, List.getElem_cons_succ, List.getElem_cons_zero, List.setIfInBounds_toArray, List.set_cons_zero, List.set_cons_succ])
  (refine Ls.val ?_ rfl (fun _ _ _ h => h) (by kernel_rfl) ?_ ?_; rotate_left 1; focus (intro w hw; go_simp; with_reducible rfl)); (try simp (config := {maxSteps := 2000000}) only [Act.put, List.getElem_toArray, List.getElem_cons_succ, List.getElem_cons_zero, List.setIfInBounds_toArray, List.set_cons_zero, List.set_cons_succ])
  have hK10 := bdw hK9
  have hBa_10 := bdw hBa_9
  have hBc_10 := bdw hBc_9
  have hBl_10 := bdw hBl_9
  have hBf_10 := bdw hBf_9
  have hcd_10 := hcd_9.drew
  have hld_10 := (show _ < v9.drew.heap.size from hld_9)
  have hcs_10 := cdw hcs_9
  have hls_10 := (show _ < v9.drew.heap.size from hls_9)
  have hcx_10 := cdw hcx_9
  have hlx_10 := (show _ < v9.drew.heap.size from hlx_9)
  have hcy_10 := cdw hcy_9
  have hly_10 := (show _ < v9.drew.heap.size from hly_9)
  generalize v9.drew = v10 at hK10 hBa_10 hBc_10 hBl_10 hBf_10 hcd_10 hld_10 hcs_10 hls_10 hcx_10 hlx_10 hcy_10 hly_10 ⊢
  clear hK9 hBa_9 hBc_9 hBl_9 hBf_9 hcd_9 hld_9 hcs_9 hls_9 hcx_9 hlx_9 hcy_9 hly_9
  have hKq11 := (Kept.refl v10.heap.size (fun _ => False) v10).alloc (.cells #[] 5) (Nat.le_refl _)
  have hO11 := Own.lit (b := v10.heap.size) (e := 5) (k := .u8) v10 [] (Nat.le_refl _) (Nat.zero_le _)
  refine Ls.made (w' := v10.alloc (.cells #[] 5)) (.slice (some ⟨v10.heap.size, 0, none⟩) 0 0) rfl (by kernel_rfl) (by kernel_rfl) (fun _ => ⟨hcd_10.below hKq11.below hld_10, cell_bel hcs_10 hKq11.below hls_10, cell_bel hcx_10 hKq11.below hlx_10, cell_bel hcy_10 hKq11.below hly_10⟩) ?_
  (try simp (config := {maxSteps := 2000000}) only [Act.put, List.getElem_toArray, List.getElem_cons_succ, List.getElem_cons_zero, List.setIfInBounds_toArray, List.set_cons_zero, List.set_cons_succ])
  change Own (v10.alloc (.cells #[] 5)) _ _ _ _ _ at hO11
  generalize v10.alloc (.cells #[] 5) = u11 at hKq11 hO11 ⊢
  refine Ls.app (c := c8) rfl rfl (.tmp 73) (.tmp 74) 24 5 .u8 1 rfl Tryd.underlying24 inf_u8 hO11 (((hRl.bel hBl_10).below hKq11.below).more hKq11.below.size) (by kernel_rfl) (by kernel_rfl) hll (xorL (xl.take 32) (prfL (seed.take 32) (adB d 1))) rfl 32 hll (by decide) (by decide) hKq11.below.size ?_
  intro hSx Aa12 ca12 ua12 hOa12 hga12 hfa12
  have hKq12 := hKq11.grew hO11 hga12 (Nat.le_refl _) hKq11.below.size
  refine ⟨⟨hcd_10.below hKq12.below hld_10, cell_bel hcs_10 hKq12.below hls_10, cell_bel hcx_10 hKq12.below hlx_10, cell_bel hcy_10 hKq12.below hly_10⟩, ?_⟩
  (try simp (config := {maxSteps := 2000000}) only [Act.put, List.getElem_toArray, List.getElem_cons_succ, List.getElem_cons_zero, List.setIfInBounds_toArray, List.set_cons_zero, List.set_cons_succ])
  clear hO11 hKq11 hSx hga12 hfa12
  refine Ls.call rfl (by kernel_rfl) (by kernel_rfl) (fun _ => (turned_any yl (prfL (seed.take 32) (adB d 2)) Ay A7 ny cy 32 c7 ua12 (((hy.bel hK10).below hKq12.below).more hKq12.below.size) hny (by omega) (((hRc.bel hBc_10).below hKq12.below).more hKq12.below.size) (prfL_len _ _) (Nat.le_refl _)).mono ?_)
  rintro e v13 ⟨A13, c13, rfl, hF13, hb13⟩
  have hKq13 := kbl hKq12 hKq12.below.size hb13
  have hO13 := hOa12.below hb13 (Nat.le_refl _)
  have hRm := hF13.rd
  refine ⟨_, rfl, ⟨hcd_10.below hKq13.below hld_10, cell_bel hcs_10 hKq13.below hls_10, cell_bel hcx_10 hKq13.below hlx_10, cell_bel hcy_10 hKq13.below hly_10⟩, ?_⟩
  (try simp (config := {maxSteps := 2000000}) only [Act.put, List.getElem_toArray, List.getElem_cons_succ, List.getElem_cons_zero, List.setIfInBounds_toArray, List.set_cons_zero, List.set_cons_succ])
  clear hOa12 hKq12 hb13 hF13
  rw [xorP] at hRm
  obtain ⟨T, hTT⟩ : ∃ T, (xorL (xl.take 32) (prfL (seed.take 32) (adB d 1))) ++ (xorL (yl.take 32) (prfL (seed.take 32) (adB d 2))) = T := ⟨_, rfl⟩
  have hTl : T.length = 64 := by rw [← hTT, List.length_append, hll, hlr]
  have hTb : Bys T := by rw [← hTT]; exact (xorL_B _ _).append (xorL_B _ _)
  refine Ls.app (c := c13) rfl rfl (.tmp 75) (.tmp 79) 24 5 .u8 1 rfl Tryd.underlying24 inf_u8 hO13 hRm (by kernel_rfl) (by kernel_rfl) hlr T hTT 64 hTl (by decide) (by decide) hKq13.below.size ?_
  intro hSx Aa14 ca14 ua14 hOa14 hga14 hfa14
  have hKq14 := hKq13.grew hO13 hga14 (Nat.le_refl _) hKq13.below.size
  refine ⟨⟨hcd_10.below hKq14.below hld_10, cell_bel hcs_10 hKq14.below hls_10, cell_bel hcx_10 hKq14.below hlx_10, cell_bel hcy_10 hKq14.below hly_10⟩, ?_⟩
  (try simp (config := {maxSteps := 2000000}) only [Act.put, List.getElem_toArray, List.getElem_cons_succ, List.getElem_cons_zero, List.setIfInBounds_toArray, List.set_cons_zero, List.set_cons_succ])
  clear hO13 hKq13 hSx hga14 hfa14
  have hbq := hKq14.below
  have hK14 := bnx hK10 hbq hK10.size
  have hBa_14 := bnx hBa_10 hbq hBa_10.size
  have hBc_14 := bnx hBc_10 hbq hBc_10.size
  have hBl_14 := bnx hBl_10 hbq hBl_10.size
  have hBf_14 := bnx hBf_10 hbq hBf_10.size
  have hcd_14 := hcd_10.below hbq hld_10
  have hld_14 := Nat.lt_of_lt_of_le hld_10 hbq.size
  have hcs_14 := cell_bel hcs_10 hbq hls_10
  have hls_14 := Nat.lt_of_lt_of_le hls_10 hbq.size
  have hcx_14 := cell_bel hcx_10 hbq hlx_10
  have hlx_14 := Nat.lt_of_lt_of_le hlx_10 hbq.size
  have hcy_14 := cell_bel hcy_10 hbq hly_10
  have hly_14 := Nat.lt_of_lt_of_le hly_10 hbq.size
  have hcT : 64 ≤ ca14 := by have := hOa14.len.2; rw [hTl] at this; exact this
  have hRT := hOa14.rd
  have hBT_11 := Below.refl ua14.heap.size ua14
  clear hOa14 hKq14 hbq hK10 hBa_10 hBc_10 hBl_10 hBf_10 hcd_10 hld_10 hcs_10 hls_10 hcx_10 hlx_10 hcy_10 hly_10
  clear hRm
  refine Ls.call rfl (by kernel_rfl) (by kernel_rfl) (fun _ => (num_any 1 (prfL (seed.take 32) (adB d 0)) T A3 Aa14 32 c3 64 ca14 ua14 (by unfold B8; decide) (hRa.bel hBa_14) (prfL_len _ _) hca (by decide) (prfL_B _ _) (hRT.bel hBT_11) hTl hcT (by decide) hTb (hS.below hK14 (Nat.le_refl _))).mono ?_)
  rintro e v15 ⟨A15, c15, rfl, hF15, hb15⟩
  have hK15 := bnx hK14 hb15 hK14.size
  have hBa_15 := bnx hBa_14 hb15 hBa_14.size
  have hBc_15 := bnx hBc_14 hb15 hBc_14.size
  have hBl_15 := bnx hBl_14 hb15 hBl_14.size
  have hBf_15 := bnx hBf_14 hb15 hBf_14.size
  have hBT_15 := bnx hBT_11 hb15 hBT_11.size
  have hcd_15 := hcd_14.below hb15 hld_14
  have hld_15 := Nat.lt_of_lt_of_le hld_14 hb15.size
  have hcs_15 := cell_bel hcs_14 hb15 hls_14
  have hls_15 := Nat.lt_of_lt_of_le hls_14 hb15.size
  have hcx_15 := cell_bel hcx_14 hb15 hlx_14
  have hlx_15 := Nat.lt_of_lt_of_le hlx_14 hb15.size
  have hcy_15 := cell_bel hcy_14 hb15 hly_14
  have hly_15 := Nat.lt_of_lt_of_le hly_14 hb15.size
  refine ⟨_, rfl, ⟨hcd_15, hcs_15, hcx_15, hcy_15⟩, ?_⟩
  (try simp (config := {maxSteps := 2000000}) only [Act.put, List.getElem_toArray, List.getElem_cons_succ, List.getElem_cons_zero, List.setIfInBounds_toArray, List.set_cons_zero, List.set_cons_succ])
  have hRh := (show Rd v15 v15.heap.size .u8 A15 (hL (seed.take 32) d (xl.take 32) (yl.take 32)) from by have := hF15.rd; rw [← hTT] at this; exact this)
  have hBh_15 := Below.refl v15.heap.size v15
  clear hK14 hBa_14 hBc_14 hBl_14 hBf_14 hBT_11 hcd_14 hld_14 hcs_14 hls_14 hcx_14 hlx_14 hcy_14 hly_14 hb15 hF15
  clear hRT hcT hTT hTl hTb hBT_15 hRa hBa_15 hRl hBl_15 hRc hBc_15
  (refine Ls.val ?_ rfl (fun _ _ _ h => h) (by kernel_rfl) ?_ ?_; rotate_left 1; focus (intro w hw; go_simp; with_reducible rfl)); (try simp (config := {maxSteps := 2000000}) only [Act.put, List.getElem_toArray, List.getElem_cons_succ, List.getElem_cons_zero, List.setIfInBounds_toArray, List.set_cons_zero, List.set_cons_succ])
  refine Ls.done ?_
  intro _
  go_upto_region 14 with fail
  refine Ls.start (fun w' => Blk w' w.heap.size 46 d.cs ∧ w'.cell? ⟨w.heap.size + 1, 0, none⟩ = some (.slice As ns cs) ∧ w'.cell? ⟨w.heap.size + 1, 2, none⟩ = some (.slice Ax nx cx) ∧ w'.cell? ⟨w.heap.size + 1, 3, none⟩ = some (.slice Ay ny cy)) [(1, true), (3, true), (6, true), (7, true), (0, false), (2, false), (4, false), (5, false), (8, false), (9, false), (10, true)] (by kernel_rfl) (by kernel_rfl) (by kernel_rfl) (by kernel_rfl) ⟨hcd_15.drew, hcs_15, hcx_15, hcy_15⟩ ?_
  (refine Ls.val ?_ rfl (fun _ _ _ h => h) (by kernel_rfl) ?_ ?_; rotate_left 1; focus (intro w hw; go_simp; with_reducible rfl)); (try simp (config := {maxSteps := 2000000}) only [Act.put, List.getElem_toArray, List.getElem_cons_succ, List.getElem_cons_zero, List.setIfInBounds_toArray, List.set_cons_zero, List.set_cons_succ])
  refine Ls.val (.agg d.cs) rfl (fun _ _ _ h => h) (by kernel_rfl) (fun w hw => exec_load_row w rfl (by kernel_rfl) Tryd.underlying46 rfl (by kernel_rfl) hw.1) ?_; (try simp (config := {maxSteps := 2000000}) only [Act.put, List.getElem_toArray, List.getElem_cons_succ, List.getElem_cons_zero, List.setIfInBounds_toArray, List.set_cons_zero, List.set_cons_succ])
  (refine Ls.val ?_ rfl (fun _ _ _ h => h) (by kernel_rfl) ?_ ?_; rotate_left 1; focus (intro w hw; go_simp; with_reducible rfl)); (try simp (config := {maxSteps := 2000000}) only [Act.put, List.getElem_toArray, List.getElem_cons_succ, List.getElem_cons_zero, List.setIfInBounds_toArray, List.set_cons_zero, List.set_cons_succ])
  (refine Ls.val ?_ rfl (fun _ _ _ h => h) (by kernel_rfl) ?_ ?_; rotate_left 1; focus (intro w hw; have hcell := hw.2.2.1; go_simp; with_reducible rfl)); (try simp (config := {maxSteps := 2000000}) only [Act.put, List.getElem_toArray, List.getElem_cons_succ, List.getElem_cons_zero, List.setIfInBounds_toArray, List.set_cons_zero, List.set_cons_succ])
  have hK16 := bdw hK15
  have hBf_16 := bdw hBf_15
  have hBh_16 := bdw hBh_15
  have hcd_16 := hcd_15.drew
  have hld_16 := (show _ < v15.drew.heap.size from hld_15)
  have hcs_16 := cdw hcs_15
  have hls_16 := (show _ < v15.drew.heap.size from hls_15)
  have hcx_16 := cdw hcx_15
  have hlx_16 := (show _ < v15.drew.heap.size from hlx_15)
  have hcy_16 := cdw hcy_15
  have hly_16 := (show _ < v15.drew.heap.size from hly_15)
  generalize v15.drew = v16 at hK16 hBf_16 hBh_16 hcd_16 hld_16 hcs_16 hls_16 hcx_16 hlx_16 hcy_16 hly_16 ⊢
  clear hK15 hBf_15 hBh_15 hcd_15 hld_15 hcs_15 hls_15 hcx_15 hlx_15 hcy_15 hly_15
  have hKq17 := (Kept.refl v16.heap.size (fun _ => False) v16).alloc (.cells #[] 5) (Nat.le_refl _)
  have hO17 := Own.lit (b := v16.heap.size) (e := 5) (k := .u8) v16 [] (Nat.le_refl _) (Nat.zero_le _)
  refine Ls.made (w' := v16.alloc (.cells #[] 5)) (.slice (some ⟨v16.heap.size, 0, none⟩) 0 0) rfl (by kernel_rfl) (by kernel_rfl) (fun _ => ⟨hcd_16.below hKq17.below hld_16, cell_bel hcs_16 hKq17.below hls_16, cell_bel hcx_16 hKq17.below hlx_16, cell_bel hcy_16 hKq17.below hly_16⟩) ?_
  (try simp (config := {maxSteps := 2000000}) only [Act.put, List.getElem_toArray, List.getElem_cons_succ, List.getElem_cons_zero, List.setIfInBounds_toArray, List.set_cons_zero, List.set_cons_succ])
  change Own (v16.alloc (.cells #[] 5)) _ _ _ _ _ at hO17
  generalize v16.alloc (.cells #[] 5) = u17 at hKq17 hO17 ⊢
  refine Ls.app (c := cs) rfl rfl (.tmp 82) (.tmp 83) 24 5 .u8 1 rfl Tryd.underlying24 inf_u8 hO17 (((hs32.bel hK16).below hKq17.below).more hKq17.below.size) (by kernel_rfl) (by kernel_rfl) hls (seed.take 32) rfl 32 hls (by decide) (by decide) hKq17.below.size ?_
  intro hSx Aa18 ca18 ua18 hOa18 hga18 hfa18
  have hKq18 := hKq17.grew hO17 hga18 (Nat.le_refl _) hKq17.below.size
  refine ⟨⟨hcd_16.below hKq18.below hld_16, cell_bel hcs_16 hKq18.below hls_16, cell_bel hcx_16 hKq18.below hlx_16, cell_bel hcy_16 hKq18.below hly_16⟩, ?_⟩
  (try simp (config := {maxSteps := 2000000}) only [Act.put, List.getElem_toArray, List.getElem_cons_succ, List.getElem_cons_zero, List.setIfInBounds_toArray, List.set_cons_zero, List.set_cons_succ])
  clear hO17 hKq17 hSx hga18 hfa18
  refine Ls.call rfl (by kernel_rfl) (by kernel_rfl) (fun _ => (plain_any d ua18 hd).mono ?_)
  rintro e v19 ⟨A19, c19, rfl, hF19, hb19⟩
  have hKq19 := kbl hKq18 hKq18.below.size hb19
  have hO19 := hOa18.below hb19 (Nat.le_refl _)
  have hRm := hF19.rd
  refine ⟨_, rfl, ⟨hcd_16.below hKq19.below hld_16, cell_bel hcs_16 hKq19.below hls_16, cell_bel hcx_16 hKq19.below hlx_16, cell_bel hcy_16 hKq19.below hly_16⟩, ?_⟩
  (try simp (config := {maxSteps := 2000000}) only [Act.put, List.getElem_toArray, List.getElem_cons_succ, List.getElem_cons_zero, List.setIfInBounds_toArray, List.set_cons_zero, List.set_cons_succ])
  clear hOa18 hKq18 hb19 hF19
  obtain ⟨T1, hT1⟩ : ∃ T, (seed.take 32) ++ adP d = T := ⟨_, rfl⟩
  have hT1l : T1.length = 64 := by rw [← hT1, List.length_append, hls, adP_len]
  refine Ls.app (c := c19) rfl rfl (.tmp 84) (.tmp 86) 24 5 .u8 1 rfl Tryd.underlying24 inf_u8 hO19 hRm (by kernel_rfl) (by kernel_rfl) (adP_len _) T1 hT1 64 hT1l (by decide) (by decide) hKq19.below.size ?_
  intro hSx Aa20 ca20 ua20 hOa20 hga20 hfa20
  have hKq20 := hKq19.grew hO19 hga20 (Nat.le_refl _) hKq19.below.size
  refine ⟨⟨hcd_16.below hKq20.below hld_16, cell_bel hcs_16 hKq20.below hls_16, cell_bel hcx_16 hKq20.below hlx_16, cell_bel hcy_16 hKq20.below hly_16⟩, ?_⟩
  (try simp (config := {maxSteps := 2000000}) only [Act.put, List.getElem_toArray, List.getElem_cons_succ, List.getElem_cons_zero, List.setIfInBounds_toArray, List.set_cons_zero, List.set_cons_succ])
  clear hO19 hKq19 hSx hga20 hfa20
  obtain ⟨T, hTT⟩ : ∃ T, T1 ++ xl = T := ⟨_, rfl⟩
  obtain ⟨nT, hnT⟩ : ∃ q, 64 + nx = q := ⟨_, rfl⟩
  have hTl : T.length = nT := by rw [← hTT, List.length_append, hT1l, hnx, hnT]
  have hTb : Bys T := by rw [← hTT, ← hT1]; exact (hBs.append (adP_B d)).append hbx
  have hTe : (seed.take 32) ++ adP d ++ xl = T := by rw [hT1, hTT]
  refine Ls.app (c := cx) rfl rfl (.tmp 87) (.tmp 89) 24 5 .u8 1 rfl Tryd.underlying24 inf_u8 hOa20 (((hx.bel hK16).below hKq20.below).more hKq20.below.size) (by kernel_rfl) (by kernel_rfl) hnx T hTT nT hTl (by omega) (by omega) hKq20.below.size ?_
  intro hSx Aa21 ca21 ua21 hOa21 hga21 hfa21
  have hKq21 := hKq20.grew hOa20 hga21 (Nat.le_refl _) hKq20.below.size
  refine ⟨⟨hcd_16.below hKq21.below hld_16, cell_bel hcs_16 hKq21.below hls_16, cell_bel hcx_16 hKq21.below hlx_16, cell_bel hcy_16 hKq21.below hly_16⟩, ?_⟩
  (try simp (config := {maxSteps := 2000000}) only [Act.put, List.getElem_toArray, List.getElem_cons_succ, List.getElem_cons_zero, List.setIfInBounds_toArray, List.set_cons_zero, List.set_cons_succ])
  clear hOa20 hKq20 hSx hga21 hfa21
  have hbq := hKq21.below
  have hK21 := bnx hK16 hbq hK16.size
  have hBf_21 := bnx hBf_16 hbq hBf_16.size
  have hBh_21 := bnx hBh_16 hbq hBh_16.size
  have hcd_21 := hcd_16.below hbq hld_16
  have hld_21 := Nat.lt_of_lt_of_le hld_16 hbq.size
  have hcs_21 := cell_bel hcs_16 hbq hls_16
  have hls_21 := Nat.lt_of_lt_of_le hls_16 hbq.size
  have hcx_21 := cell_bel hcx_16 hbq hlx_16
  have hlx_21 := Nat.lt_of_lt_of_le hlx_16 hbq.size
  have hcy_21 := cell_bel hcy_16 hbq hly_16
  have hly_21 := Nat.lt_of_lt_of_le hly_16 hbq.size
  have hcT : nT ≤ ca21 := by have := hOa21.len.2; rw [hTl] at this; exact this
  have hRT := hOa21.rd
  have hBT_17 := Below.refl ua21.heap.size ua21
  clear hOa21 hKq21 hbq hK16 hBf_16 hBh_16 hcd_16 hld_16 hcs_16 hls_16 hcx_16 hlx_16 hcy_16 hly_16
  have hnl : Aa21 = none → ca21 = 0 := fun h => by subst h; exact absurd (hRT (by omega)) (by rintro ⟨g, hg, _⟩; cases hg)
  clear hRm
  refine Ls.call rfl (by kernel_rfl) (by kernel_rfl) (fun _ => (sum_n T Aa21 nT ca21 ua21.heap.size 32 ua21 (hRT.bel hBT_17) (Nat.le_refl _) (by omega) hnl (hKT.bel hK21) hTb (by decide) hTl 32 rfl).mono ?_)
  rintro e v22 ⟨A22, c22, rfl, hF22, hb22⟩
  have hK22 := bnx hK21 hb22 hK21.size
  have hBf_22 := bnx hBf_21 hb22 hBf_21.size
  have hBh_22 := bnx hBh_21 hb22 hBh_21.size
  have hBT_22 := bnx hBT_17 hb22 hBT_17.size
  have hcd_22 := hcd_21.below hb22 hld_21
  have hld_22 := Nat.lt_of_lt_of_le hld_21 hb22.size
  have hcs_22 := cell_bel hcs_21 hb22 hls_21
  have hls_22 := Nat.lt_of_lt_of_le hls_21 hb22.size
  have hcx_22 := cell_bel hcx_21 hb22 hlx_21
  have hlx_22 := Nat.lt_of_lt_of_le hlx_21 hb22.size
  have hcy_22 := cell_bel hcy_21 hb22 hly_21
  have hly_22 := Nat.lt_of_lt_of_le hly_21 hb22.size
  refine ⟨_, rfl, ⟨hcd_22, hcs_22, hcx_22, hcy_22⟩, ?_⟩
  (try simp (config := {maxSteps := 2000000}) only [Act.put, List.getElem_toArray, List.getElem_cons_succ, List.getElem_cons_zero, List.setIfInBounds_toArray, List.set_cons_zero, List.set_cons_succ])
  have hRt := (show Rd v22 v22.heap.size .u8 A22 (twL 32 (seed.take 32) d xl) from by have := hF22.rd; rw [← hTe] at this; exact this)
  have hBt_22 := Below.refl v22.heap.size v22
  clear hK21 hBf_21 hBh_21 hBT_17 hcd_21 hld_21 hcs_21 hls_21 hcx_21 hlx_21 hcy_21 hly_21 hb22 hF22
  clear hRT hcT hTT hTl hTb hT1 hT1l hTe hnl hnT hBT_22
  (refine Ls.val ?_ rfl (fun _ _ _ h => h) (by kernel_rfl) ?_ ?_; rotate_left 1; focus (intro w hw; go_simp; with_reducible rfl)); (try simp (config := {maxSteps := 2000000}) only [Act.put, List.getElem_toArray, List.getElem_cons_succ, List.getElem_cons_zero, List.setIfInBounds_toArray, List.set_cons_zero, List.set_cons_succ])
  refine Ls.done ?_
  intro _
  go_upto_region 15 with fail
  refine Ls.start (fun w' => Blk w' w.heap.size 46 d.cs ∧ w'.cell? ⟨w.heap.size + 1, 0, none⟩ = some (.slice As ns cs) ∧ w'.cell? ⟨w.heap.size + 1, 2, none⟩ = some (.slice Ax nx cx) ∧ w'.cell? ⟨w.heap.size + 1, 3, none⟩ = some (.slice Ay ny cy)) [(0, true), (1, true), (2, true), (3, true), (4, true), (5, true), (6, true), (7, true), (8, true), (10, true), (9, false), (11, false), (12, true), (13, true), (14, true), (15, true), (16, true), (17, true), (18, true), (19, true), (20, true), (21, true), (23, true), (22, false), (24, false), (25, true), (26, true), (27, true), (28, true), (29, true), (30, true), (31, true), (32, true), (33, true), (34, true), (35, true), (37, true), (36, false), (38, false), (39, true), (40, true)] (by kernel_rfl) (by kernel_rfl) (by kernel_rfl) (by kernel_rfl) ⟨hcd_22.drew, hcs_22, hcx_22, hcy_22⟩ ?_
  (refine Ls.val ?_ rfl (fun _ _ _ h => h) (by kernel_rfl) ?_ ?_; rotate_left 1; focus (intro w hw; go_simp; with_reducible rfl)); (try simp (config := {maxSteps := 2000000}) only [Act.put, List.getElem_toArray, List.getElem_cons_succ, List.getElem_cons_zero, List.setIfInBounds_toArray, List.set_cons_zero, List.set_cons_succ])
  (refine Ls.val ?_ rfl (fun _ _ _ h => h) (by kernel_rfl) ?_ ?_; rotate_left 1; focus (intro w hw; go_simp; with_reducible rfl)); (try simp (config := {maxSteps := 2000000}) only [Act.put, List.getElem_toArray, List.getElem_cons_succ, List.getElem_cons_zero, List.setIfInBounds_toArray, List.set_cons_zero, List.set_cons_succ])
  (refine Ls.val ?_ rfl (fun _ _ _ h => h) (by kernel_rfl) ?_ ?_; rotate_left 1; focus (intro w hw; go_simp; with_reducible rfl)); (try simp (config := {maxSteps := 2000000}) only [Act.put, List.getElem_toArray, List.getElem_cons_succ, List.getElem_cons_zero, List.setIfInBounds_toArray, List.set_cons_zero, List.set_cons_succ])
  (refine Ls.val ?_ rfl (fun _ _ _ h => h) (by kernel_rfl) ?_ ?_; rotate_left 1; focus (intro w hw; go_simp; with_reducible rfl)); (try simp (config := {maxSteps := 2000000}) only [Act.put, List.getElem_toArray, List.getElem_cons_succ, List.getElem_cons_zero, List.setIfInBounds_toArray, List.set_cons_zero, List.set_cons_succ])
  (refine Ls.val ?_ rfl (fun _ _ _ h => h) (by kernel_rfl) ?_ ?_; rotate_left 1; focus (intro w hw; go_simp; with_reducible rfl)); (try simp (config := {maxSteps := 2000000}) only [Act.put, List.getElem_toArray, List.getElem_cons_succ, List.getElem_cons_zero, List.setIfInBounds_toArray, List.set_cons_zero, List.set_cons_succ])
  refine Ls.val (.agg d.cs) rfl (fun _ _ _ h => h) (by kernel_rfl) (fun w hw => exec_load_row w rfl (by kernel_rfl) Tryd.underlying46 rfl (by kernel_rfl) hw.1) ?_; (try simp (config := {maxSteps := 2000000}) only [Act.put, List.getElem_toArray, List.getElem_cons_succ, List.getElem_cons_zero, List.setIfInBounds_toArray, List.set_cons_zero, List.set_cons_succ])
  (refine Ls.val ?_ rfl (fun _ _ _ h => h) (by kernel_rfl) ?_ ?_; rotate_left 1; focus (intro w hw; go_simp; with_reducible rfl)); (try simp (config := {maxSteps := 2000000}) only [Act.put, List.getElem_toArray, List.getElem_cons_succ, List.getElem_cons_zero, List.setIfInBounds_toArray, List.set_cons_zero, List.set_cons_succ])
  (refine Ls.val ?_ rfl (fun _ _ _ h => h) (by kernel_rfl) ?_ ?_; rotate_left 1; focus (intro w hw; have hcell := hw.2.2.1; go_simp; with_reducible rfl)); (try simp (config := {maxSteps := 2000000}) only [Act.put, List.getElem_toArray, List.getElem_cons_succ, List.getElem_cons_zero, List.setIfInBounds_toArray, List.set_cons_zero, List.set_cons_succ])
  (refine Ls.val ?_ rfl (fun _ _ _ h => h) (by kernel_rfl) ?_ ?_; rotate_left 1; focus (intro w hw; go_simp; with_reducible rfl)); (try simp (config := {maxSteps := 2000000}) only [Act.put, List.getElem_toArray, List.getElem_cons_succ, List.getElem_cons_zero, List.setIfInBounds_toArray, List.set_cons_zero, List.set_cons_succ])
  (refine Ls.val ?_ rfl (fun _ _ _ h => h) (by kernel_rfl) ?_ ?_; rotate_left 1; focus (intro w hw; go_simp; with_reducible rfl)); (try simp (config := {maxSteps := 2000000}) only [Act.put, List.getElem_toArray, List.getElem_cons_succ, List.getElem_cons_zero, List.setIfInBounds_toArray, List.set_cons_zero, List.set_cons_succ])
  have hK23 := bdw hK22
  have hBf_23 := bdw hBf_22
  have hBh_23 := bdw hBh_22
  have hBt_23 := bdw hBt_22
  have hcd_23 := hcd_22.drew
  have hld_23 := (show _ < v22.drew.heap.size from hld_22)
  have hcs_23 := cdw hcs_22
  have hls_23 := (show _ < v22.drew.heap.size from hls_22)
  have hcx_23 := cdw hcx_22
  have hlx_23 := (show _ < v22.drew.heap.size from hlx_22)
  have hcy_23 := cdw hcy_22
  have hly_23 := (show _ < v22.drew.heap.size from hly_22)
  generalize v22.drew = v23 at hK23 hBf_23 hBh_23 hBt_23 hcd_23 hld_23 hcs_23 hls_23 hcx_23 hlx_23 hcy_23 hly_23 ⊢
  clear hK22 hBf_22 hBh_22 hBt_22 hcd_22 hld_22 hcs_22 hls_22 hcx_22 hlx_22 hcy_22 hly_22
  refine Ls.call rfl (by kernel_rfl) (by kernel_rfl) (fun _ => (f_any (seed.take 32) d (xl.take 32) As Ax 32 cs 32 cx v23 hd (hs32.bel hK23) hls hCs hBs (hx32.bel hK23) hlx hCx hBx (hS.below hK23 (Nat.le_refl _)) ⟨rfl, rfl⟩).mono ?_)
  rintro e v24 ⟨A24, c24, rfl, hF24, hb24⟩
  have hK24 := bnx hK23 hb24 hK23.size
  have hBf_24 := bnx hBf_23 hb24 hBf_23.size
  have hBh_24 := bnx hBh_23 hb24 hBh_23.size
  have hBt_24 := bnx hBt_23 hb24 hBt_23.size
  have hcd_24 := hcd_23.below hb24 hld_23
  have hld_24 := Nat.lt_of_lt_of_le hld_23 hb24.size
  have hcs_24 := cell_bel hcs_23 hb24 hls_23
  have hls_24 := Nat.lt_of_lt_of_le hls_23 hb24.size
  have hcx_24 := cell_bel hcx_23 hb24 hlx_23
  have hlx_24 := Nat.lt_of_lt_of_le hlx_23 hb24.size
  have hcy_24 := cell_bel hcy_23 hb24 hly_23
  have hly_24 := Nat.lt_of_lt_of_le hly_23 hb24.size
  refine ⟨_, rfl, ⟨hcd_24, hcs_24, hcx_24, hcy_24⟩, ?_⟩
  (try simp (config := {maxSteps := 2000000}) only [Act.put, List.getElem_toArray, List.getElem_cons_succ, List.getElem_cons_zero, List.setIfInBounds_toArray, List.set_cons_zero, List.set_cons_succ])
  have hRF := hF24.rd
  have hBF_24 := Below.refl v24.heap.size v24
  clear hK23 hBf_23 hBh_23 hBt_23 hcd_23 hld_23 hcs_23 hls_23 hcx_23 hlx_23 hcy_23 hly_23 hb24 hF24
  refine Ls.call rfl (by kernel_rfl) (by kernel_rfl) (fun _ => (same_is_b v24 A24 A9 (fL (seed.take 32) d (xl.take 32)) 32 c24 c9 (hRF.bel hBF_24) (hRf.bel hBf_24) (fL_len _ _ _) (by decide)).mono ?_)
  rintro e v25 ⟨rfl, hb25⟩
  have hK25 := bnx hK24 hb25 hK24.size
  have hBf_25 := bnx hBf_24 hb25 hBf_24.size
  have hBh_25 := bnx hBh_24 hb25 hBh_24.size
  have hBt_25 := bnx hBt_24 hb25 hBt_24.size
  have hBF_25 := bnx hBF_24 hb25 hBF_24.size
  have hcd_25 := hcd_24.below hb25 hld_24
  have hld_25 := Nat.lt_of_lt_of_le hld_24 hb25.size
  have hcs_25 := cell_bel hcs_24 hb25 hls_24
  have hls_25 := Nat.lt_of_lt_of_le hls_24 hb25.size
  have hcx_25 := cell_bel hcx_24 hb25 hlx_24
  have hlx_25 := Nat.lt_of_lt_of_le hlx_24 hb25.size
  have hcy_25 := cell_bel hcy_24 hb25 hly_24
  have hly_25 := Nat.lt_of_lt_of_le hly_24 hb25.size
  refine ⟨_, rfl, ⟨hcd_25, hcs_25, hcx_25, hcy_25⟩, ?_⟩
  (try simp (config := {maxSteps := 2000000}) only [Act.put, List.getElem_toArray, List.getElem_cons_succ, List.getElem_cons_zero, List.setIfInBounds_toArray, List.set_cons_zero, List.set_cons_succ])
  clear hK24 hBf_24 hBh_24 hBt_24 hBF_24 hcd_24 hld_24 hcs_24 hls_24 hcx_24 hlx_24 hcy_24 hly_24 hb25
  (refine Ls.val ?_ rfl (fun _ _ _ h => h) (by kernel_rfl) ?_ ?_; rotate_left 1; focus (intro w hw; go_simp; with_reducible rfl)); (try simp (config := {maxSteps := 2000000}) only [Act.put, List.getElem_toArray, List.getElem_cons_succ, List.getElem_cons_zero, List.setIfInBounds_toArray, List.set_cons_zero, List.set_cons_succ])
  (refine Ls.val ?_ rfl (fun _ _ _ h => h) (by kernel_rfl) ?_ ?_; rotate_left 1; focus (intro w hw; go_simp; with_reducible rfl)); (try simp (config := {maxSteps := 2000000}) only [Act.put, List.getElem_toArray, List.getElem_cons_succ, List.getElem_cons_zero, List.setIfInBounds_toArray, List.set_cons_zero, List.set_cons_succ])
  (refine Ls.val ?_ rfl (fun _ _ _ h => h) (by kernel_rfl) ?_ ?_; rotate_left 1; focus (intro w hw; go_simp; with_reducible rfl)); (try simp (config := {maxSteps := 2000000}) only [Act.put, List.getElem_toArray, List.getElem_cons_succ, List.getElem_cons_zero, List.setIfInBounds_toArray, List.set_cons_zero, List.set_cons_succ])
  refine Ls.val (.agg d.cs) rfl (fun _ _ _ h => h) (by kernel_rfl) (fun w hw => exec_load_row w rfl (by kernel_rfl) Tryd.underlying46 rfl (by kernel_rfl) hw.1) ?_; (try simp (config := {maxSteps := 2000000}) only [Act.put, List.getElem_toArray, List.getElem_cons_succ, List.getElem_cons_zero, List.setIfInBounds_toArray, List.set_cons_zero, List.set_cons_succ])
  (refine Ls.val ?_ rfl (fun _ _ _ h => h) (by kernel_rfl) ?_ ?_; rotate_left 1; focus (intro w hw; go_simp; with_reducible rfl)); (try simp (config := {maxSteps := 2000000}) only [Act.put, List.getElem_toArray, List.getElem_cons_succ, List.getElem_cons_zero, List.setIfInBounds_toArray, List.set_cons_zero, List.set_cons_succ])
  (refine Ls.val ?_ rfl (fun _ _ _ h => h) (by kernel_rfl) ?_ ?_; rotate_left 1; focus (intro w hw; have hcell := hw.2.2.1; go_simp; with_reducible rfl)); (try simp (config := {maxSteps := 2000000}) only [Act.put, List.getElem_toArray, List.getElem_cons_succ, List.getElem_cons_zero, List.setIfInBounds_toArray, List.set_cons_zero, List.set_cons_succ])
  (refine Ls.val ?_ rfl (fun _ _ _ h => h) (by kernel_rfl) ?_ ?_; rotate_left 1; focus (intro w hw; go_simp; with_reducible rfl)); (try simp (config := {maxSteps := 2000000}) only [Act.put, List.getElem_toArray, List.getElem_cons_succ, List.getElem_cons_zero, List.setIfInBounds_toArray, List.set_cons_zero, List.set_cons_succ])
  (refine Ls.val ?_ rfl (fun _ _ _ h => h) (by kernel_rfl) ?_ ?_; rotate_left 1; focus (intro w hw; go_simp; with_reducible rfl)); (try simp (config := {maxSteps := 2000000}) only [Act.put, List.getElem_toArray, List.getElem_cons_succ, List.getElem_cons_zero, List.setIfInBounds_toArray, List.set_cons_zero, List.set_cons_succ])
  (refine Ls.val ?_ rfl (fun _ _ _ h => h) (by kernel_rfl) ?_ ?_; rotate_left 1; focus (intro w hw; have hcell := hw.2.2.2; go_simp; with_reducible rfl)); (try simp (config := {maxSteps := 2000000}) only [Act.put, List.getElem_toArray, List.getElem_cons_succ, List.getElem_cons_zero, List.setIfInBounds_toArray, List.set_cons_zero, List.set_cons_succ])
  (refine Ls.val ?_ rfl (fun _ _ _ h => h) (by kernel_rfl) ?_ ?_; rotate_left 1; focus (intro w hw; go_simp; with_reducible rfl)); (try simp (config := {maxSteps := 2000000}) only [Act.put, List.getElem_toArray, List.getElem_cons_succ, List.getElem_cons_zero, List.setIfInBounds_toArray, List.set_cons_zero, List.set_cons_succ])
  (refine Ls.val ?_ rfl (fun _ _ _ h => h) (by kernel_rfl) ?_ ?_; rotate_left 1; focus (intro w hw; go_simp; with_reducible rfl)); (try simp (config := {maxSteps := 2000000}) only [Act.put, List.getElem_toArray, List.getElem_cons_succ, List.getElem_cons_zero, List.setIfInBounds_toArray, List.set_cons_zero, List.set_cons_succ])
  refine Ls.call rfl (by kernel_rfl) (by kernel_rfl) (fun _ => (h_any (seed.take 32) d (xl.take 32) (yl.take 32) As Ax Ay 32 cs 32 cx 32 cy v25 hd (hs32.bel hK25) hls hCs hBs (hx32.bel hK25) hlx hCx hBx (hy32.bel hK25) hly hCy hBy (hS.below hK25 (Nat.le_refl _)) ⟨rfl, rfl, rfl⟩).mono ?_)
  rintro e v26 ⟨A26, c26, rfl, hF26, hb26⟩
  have hK26 := bnx hK25 hb26 hK25.size
  have hBf_26 := bnx hBf_25 hb26 hBf_25.size
  have hBh_26 := bnx hBh_25 hb26 hBh_25.size
  have hBt_26 := bnx hBt_25 hb26 hBt_25.size
  have hBF_26 := bnx hBF_25 hb26 hBF_25.size
  have hcd_26 := hcd_25.below hb26 hld_25
  have hld_26 := Nat.lt_of_lt_of_le hld_25 hb26.size
  have hcs_26 := cell_bel hcs_25 hb26 hls_25
  have hls_26 := Nat.lt_of_lt_of_le hls_25 hb26.size
  have hcx_26 := cell_bel hcx_25 hb26 hlx_25
  have hlx_26 := Nat.lt_of_lt_of_le hlx_25 hb26.size
  have hcy_26 := cell_bel hcy_25 hb26 hly_25
  have hly_26 := Nat.lt_of_lt_of_le hly_25 hb26.size
  refine ⟨_, rfl, ⟨hcd_26, hcs_26, hcx_26, hcy_26⟩, ?_⟩
  (try simp (config := {maxSteps := 2000000}) only [Act.put, List.getElem_toArray, List.getElem_cons_succ, List.getElem_cons_zero, List.setIfInBounds_toArray, List.set_cons_zero, List.set_cons_succ])
  have hRH := hF26.rd
  have hBH_26 := Below.refl v26.heap.size v26
  clear hK25 hBf_25 hBh_25 hBt_25 hBF_25 hcd_25 hld_25 hcs_25 hls_25 hcx_25 hlx_25 hcy_25 hly_25 hb26 hF26
  refine Ls.call rfl (by kernel_rfl) (by kernel_rfl) (fun _ => (same_is_b v26 A26 A15 (hL (seed.take 32) d (xl.take 32) (yl.take 32)) 32 c26 c15 (hRH.bel hBH_26) (hRh.bel hBh_26) (hL_len _ _ _ _) (by decide)).mono ?_)
  rintro e v27 ⟨rfl, hb27⟩
  have hK27 := bnx hK26 hb27 hK26.size
  have hBf_27 := bnx hBf_26 hb27 hBf_26.size
  have hBh_27 := bnx hBh_26 hb27 hBh_26.size
  have hBt_27 := bnx hBt_26 hb27 hBt_26.size
  have hBF_27 := bnx hBF_26 hb27 hBF_26.size
  have hBH_27 := bnx hBH_26 hb27 hBH_26.size
  have hcd_27 := hcd_26.below hb27 hld_26
  have hld_27 := Nat.lt_of_lt_of_le hld_26 hb27.size
  have hcs_27 := cell_bel hcs_26 hb27 hls_26
  have hls_27 := Nat.lt_of_lt_of_le hls_26 hb27.size
  have hcx_27 := cell_bel hcx_26 hb27 hlx_26
  have hlx_27 := Nat.lt_of_lt_of_le hlx_26 hb27.size
  have hcy_27 := cell_bel hcy_26 hb27 hly_26
  have hly_27 := Nat.lt_of_lt_of_le hly_26 hb27.size
  refine ⟨_, rfl, ⟨hcd_27, hcs_27, hcx_27, hcy_27⟩, ?_⟩
  (try simp (config := {maxSteps := 2000000}) only [Act.put, List.getElem_toArray, List.getElem_cons_succ, List.getElem_cons_zero, List.setIfInBounds_toArray, List.set_cons_zero, List.set_cons_succ])
  clear hK26 hBf_26 hBh_26 hBt_26 hBF_26 hBH_26 hcd_26 hld_26 hcs_26 hls_26 hcx_26 hlx_26 hcy_26 hly_26 hb27
  (refine Ls.val ?_ rfl (fun _ _ _ h => h) (by kernel_rfl) ?_ ?_; rotate_left 1; focus (intro w hw; go_simp; with_reducible rfl)); (try simp (config := {maxSteps := 2000000}) only [Act.put, List.getElem_toArray, List.getElem_cons_succ, List.getElem_cons_zero, List.setIfInBounds_toArray, List.set_cons_zero, List.set_cons_succ])
  (refine Ls.val ?_ rfl (fun _ _ _ h => h) (by kernel_rfl) ?_ ?_; rotate_left 1; focus (intro w hw; go_simp; with_reducible rfl)); (try simp (config := {maxSteps := 2000000}) only [Act.put, List.getElem_toArray, List.getElem_cons_succ, List.getElem_cons_zero, List.setIfInBounds_toArray, List.set_cons_zero, List.set_cons_succ])
  (refine Ls.val ?_ rfl (fun _ _ _ h => h) (by kernel_rfl) ?_ ?_; rotate_left 1; focus (intro w hw; go_simp; with_reducible rfl)); (try simp (config := {maxSteps := 2000000}) only [Act.put, List.getElem_toArray, List.getElem_cons_succ, List.getElem_cons_zero, List.setIfInBounds_toArray, List.set_cons_zero, List.set_cons_succ])
  (refine Ls.val ?_ rfl (fun _ _ _ h => h) (by kernel_rfl) ?_ ?_; rotate_left 1; focus (intro w hw; go_simp; with_reducible rfl)); (try simp (config := {maxSteps := 2000000}) only [Act.put, List.getElem_toArray, List.getElem_cons_succ, List.getElem_cons_zero, List.setIfInBounds_toArray, List.set_cons_zero, List.set_cons_succ])
  (refine Ls.val ?_ rfl (fun _ _ _ h => h) (by kernel_rfl) ?_ ?_; rotate_left 1; focus (intro w hw; go_simp; with_reducible rfl)); (try simp (config := {maxSteps := 2000000}) only [Act.put, List.getElem_toArray, List.getElem_cons_succ, List.getElem_cons_zero, List.setIfInBounds_toArray, List.set_cons_zero, List.set_cons_succ])
  (refine Ls.val ?_ rfl (fun _ _ _ h => h) (by kernel_rfl) ?_ ?_; rotate_left 1; focus (intro w hw; go_simp; with_reducible rfl)); (try simp (config := {maxSteps := 2000000}) only [Act.put, List.getElem_toArray, List.getElem_cons_succ, List.getElem_cons_zero, List.setIfInBounds_toArray, List.set_cons_zero, List.set_cons_succ])
  (refine Ls.val ?_ rfl (fun _ _ _ h => h) (by kernel_rfl) ?_ ?_; rotate_left 1; focus (intro w hw; go_simp; with_reducible rfl)); (try simp (config := {maxSteps := 2000000}) only [Act.put, List.getElem_toArray, List.getElem_cons_succ, List.getElem_cons_zero, List.setIfInBounds_toArray, List.set_cons_zero, List.set_cons_succ])
  (refine Ls.val ?_ rfl (fun _ _ _ h => h) (by kernel_rfl) ?_ ?_; rotate_left 1; focus (intro w hw; go_simp; with_reducible rfl)); (try simp (config := {maxSteps := 2000000}) only [Act.put, List.getElem_toArray, List.getElem_cons_succ, List.getElem_cons_zero, List.setIfInBounds_toArray, List.set_cons_zero, List.set_cons_succ])
  refine Ls.val (.agg d.cs) rfl (fun _ _ _ h => h) (by kernel_rfl) (fun w hw => exec_load_row w rfl (by kernel_rfl) Tryd.underlying46 rfl (by kernel_rfl) hw.1) ?_; (try simp (config := {maxSteps := 2000000}) only [Act.put, List.getElem_toArray, List.getElem_cons_succ, List.getElem_cons_zero, List.setIfInBounds_toArray, List.set_cons_zero, List.set_cons_succ])
  (refine Ls.val ?_ rfl (fun _ _ _ h => h) (by kernel_rfl) ?_ ?_; rotate_left 1; focus (intro w hw; go_simp; with_reducible rfl)); (try simp (config := {maxSteps := 2000000}) only [Act.put, List.getElem_toArray, List.getElem_cons_succ, List.getElem_cons_zero, List.setIfInBounds_toArray, List.set_cons_zero, List.set_cons_succ])
  (refine Ls.val ?_ rfl (fun _ _ _ h => h) (by kernel_rfl) ?_ ?_; rotate_left 1; focus (intro w hw; have hcell := hw.2.2.1; go_simp; with_reducible rfl)); (try simp (config := {maxSteps := 2000000}) only [Act.put, List.getElem_toArray, List.getElem_cons_succ, List.getElem_cons_zero, List.setIfInBounds_toArray, List.set_cons_zero, List.set_cons_succ])
  (refine Ls.val ?_ rfl (fun _ _ _ h => h) (by kernel_rfl) ?_ ?_; rotate_left 1; focus (intro w hw; go_simp; with_reducible rfl)); (try simp (config := {maxSteps := 2000000}) only [Act.put, List.getElem_toArray, List.getElem_cons_succ, List.getElem_cons_zero, List.setIfInBounds_toArray, List.set_cons_zero, List.set_cons_succ])
  refine Ls.call rfl (by kernel_rfl) (by kernel_rfl) (fun _ => (tw_32 (seed.take 32) d xl As Ax 32 cs nx cx 32 v27 hd (hs32.bel hK27) hls hCs hBs (hx.bel hK27) hnx (by omega) (by omega) hbx (hKT.bel hK27) rfl rfl).mono ?_)
  rintro e v28 ⟨A28, c28, rfl, hF28, hb28⟩
  have hK28 := bnx hK27 hb28 hK27.size
  have hBf_28 := bnx hBf_27 hb28 hBf_27.size
  have hBh_28 := bnx hBh_27 hb28 hBh_27.size
  have hBt_28 := bnx hBt_27 hb28 hBt_27.size
  have hBF_28 := bnx hBF_27 hb28 hBF_27.size
  have hBH_28 := bnx hBH_27 hb28 hBH_27.size
  have hcd_28 := hcd_27.below hb28 hld_27
  have hld_28 := Nat.lt_of_lt_of_le hld_27 hb28.size
  have hcs_28 := cell_bel hcs_27 hb28 hls_27
  have hls_28 := Nat.lt_of_lt_of_le hls_27 hb28.size
  have hcx_28 := cell_bel hcx_27 hb28 hlx_27
  have hlx_28 := Nat.lt_of_lt_of_le hlx_27 hb28.size
  have hcy_28 := cell_bel hcy_27 hb28 hly_27
  have hly_28 := Nat.lt_of_lt_of_le hly_27 hb28.size
  refine ⟨_, rfl, ⟨hcd_28, hcs_28, hcx_28, hcy_28⟩, ?_⟩
  (try simp (config := {maxSteps := 2000000}) only [Act.put, List.getElem_toArray, List.getElem_cons_succ, List.getElem_cons_zero, List.setIfInBounds_toArray, List.set_cons_zero, List.set_cons_succ])
  have hRW := hF28.rd
  have hBW_28 := Below.refl v28.heap.size v28
  clear hK27 hBf_27 hBh_27 hBt_27 hBF_27 hBH_27 hcd_27 hld_27 hcs_27 hls_27 hcx_27 hlx_27 hcy_27 hly_27 hb28 hF28
  refine Ls.call rfl (by kernel_rfl) (by kernel_rfl) (fun _ => (same_is_b v28 A28 A22 (twL 32 (seed.take 32) d xl) 32 c28 c22 (hRW.bel hBW_28) (hRt.bel hBt_28) (twL_len _ _ _ _) (by decide)).mono ?_)
  rintro e v29 ⟨rfl, hb29⟩
  have hK29 := bnx hK28 hb29 hK28.size
  have hBf_29 := bnx hBf_28 hb29 hBf_28.size
  have hBh_29 := bnx hBh_28 hb29 hBh_28.size
  have hBt_29 := bnx hBt_28 hb29 hBt_28.size
  have hBF_29 := bnx hBF_28 hb29 hBF_28.size
  have hBH_29 := bnx hBH_28 hb29 hBH_28.size
  have hBW_29 := bnx hBW_28 hb29 hBW_28.size
  have hcd_29 := hcd_28.below hb29 hld_28
  have hld_29 := Nat.lt_of_lt_of_le hld_28 hb29.size
  have hcs_29 := cell_bel hcs_28 hb29 hls_28
  have hls_29 := Nat.lt_of_lt_of_le hls_28 hb29.size
  have hcx_29 := cell_bel hcx_28 hb29 hlx_28
  have hlx_29 := Nat.lt_of_lt_of_le hlx_28 hb29.size
  have hcy_29 := cell_bel hcy_28 hb29 hly_28
  have hly_29 := Nat.lt_of_lt_of_le hly_28 hb29.size
  refine ⟨_, rfl, ⟨hcd_29, hcs_29, hcx_29, hcy_29⟩, ?_⟩
  (try simp (config := {maxSteps := 2000000}) only [Act.put, List.getElem_toArray, List.getElem_cons_succ, List.getElem_cons_zero, List.setIfInBounds_toArray, List.set_cons_zero, List.set_cons_succ])
  clear hK28 hBf_28 hBh_28 hBt_28 hBF_28 hBH_28 hBW_28 hcd_28 hld_28 hcs_28 hls_28 hcx_28 hlx_28 hcy_28 hly_28 hb29
  (refine Ls.val ?_ rfl (fun _ _ _ h => h) (by kernel_rfl) ?_ ?_; rotate_left 1; focus (intro w hw; go_simp; with_reducible rfl)); (try simp (config := {maxSteps := 2000000}) only [Act.put, List.getElem_toArray, List.getElem_cons_succ, List.getElem_cons_zero, List.setIfInBounds_toArray, List.set_cons_zero, List.set_cons_succ])
  (refine Ls.val ?_ rfl (fun _ _ _ h => h) (by kernel_rfl) ?_ ?_; rotate_left 1; focus (intro w hw; go_simp; with_reducible rfl)); (try simp (config := {maxSteps := 2000000}) only [Act.put, List.getElem_toArray, List.getElem_cons_succ, List.getElem_cons_zero, List.setIfInBounds_toArray, List.set_cons_zero, List.set_cons_succ])
  refine Ls.done ?_
  intro _
  (try simp (config := {maxSteps := 2000000}) only [Act.put, List.getElem_toArray, List.getElem_cons_succ, List.getElem_cons_zero, List.setIfInBounds_toArray, List.set_cons_zero, List.set_cons_succ])
  go_wp2_with fail
  go_ret
  exact ⟨by kernel_rfl, hK29⟩
end Go.Proofs.YtfaonieaagepjaaDoor
