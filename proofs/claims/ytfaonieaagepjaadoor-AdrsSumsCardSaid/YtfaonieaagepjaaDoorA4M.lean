/- AdrsSums, walked. Conditions: what is read reads as bytes; the tables. -/
import Derived.Test.YtfaonieaagepjaaDoorA4K
import Derived.Test.YtfaonieaagepjaaDoorA4L
import Derived.Test.YtfaonieaagepjaaDoorLp
namespace Go.Proofs.YtfaonieaagepjaaDoor
open Go.RowKit
set_option linter.unusedVariables false
set_option linter.unusedSimpArgs false
set_option maxRecDepth 100000 in
set_option maxHeartbeats 8000000 in
theorem adrsSums_walk (d : Ad) (p q : Int) (seed key xl yl : List Int) (As Ak Ax Ay : Option Addr) (cs ck cx cy : Nat) (w : World) (hd : d.ok) (hs : Rd w w.heap.size .u8 As seed) (hcs : seed.length ≤ cs) (hms : cs ≤ 9223372036854775807) (hbs : Bys seed) (hk : Rd w w.heap.size .u8 Ak key) (hck : key.length ≤ ck) (hmk : ck ≤ 9223372036854775807) (hbk : Bys key) (hx : Rd w w.heap.size .u8 Ax xl) (hcx : xl.length ≤ cx) (hmx : cx ≤ 9223372036854775807) (hbx : Bys xl) (hy : Rd w w.heap.size .u8 Ay yl) (hcy : yl.length ≤ cy) (hmy : cy ≤ 9223372036854775807) (hby : Bys yl) (hS : S2Tb w) (hKT : KTab w) :
    Calls Tryd.prog 7 #[.agg d.cs, .agg #[.int .i64 p, .int .i64 q], .agg #[.slice As seed.length cs, .slice Ak key.length ck, .slice Ax xl.length cx, .slice Ay yl.length cy]] w fun e w' => e = .returned (.bool true) ∧ Below w.heap.size w w' := by
  obtain ⟨ns, hns⟩ : ∃ n, seed.length = n := ⟨_, rfl⟩
  rw [hns] at hcs ⊢
  obtain ⟨nk, hnk⟩ : ∃ n, key.length = n := ⟨_, rfl⟩
  rw [hnk] at hck ⊢
  obtain ⟨nx, hnx⟩ : ∃ n, xl.length = n := ⟨_, rfl⟩
  rw [hnx] at hcx ⊢
  obtain ⟨ny, hny⟩ : ∃ n, yl.length = n := ⟨_, rfl⟩
  rw [hny] at hcy ⊢
  have hmx : (200000000 : Nat) ≤ maxLen := by decide
  have hXd := ((Blk.new w 46 d.cs).alloc (.cells #[.int .i64 p, .int .i64 q] 47)).alloc (.cells #[.slice As ns cs, .slice Ak nk ck, .slice Ax nx cx, .slice Ay ny cy] 49)
  have hXh := (Blk.new (w.alloc (.cells d.cs 46)) 47 #[.int .i64 p, .int .i64 q]).alloc (.cells #[.slice As ns cs, .slice Ak nk ck, .slice Ax nx cx, .slice Ay ny cy] 49)
  have hXx := Blk.new ((w.alloc (.cells d.cs 46)).alloc (.cells #[.int .i64 p, .int .i64 q] 47)) 49 #[.slice As ns cs, .slice Ak nk ck, .slice Ax nx cx, .slice Ay ny cy]
  have hKx := bal (bal (bal (Below.refl w.heap.size w) (Nat.le_refl _) (.cells d.cs 46)) (by simp) (.cells #[.int .i64 p, .int .i64 q] 47)) (by simp; omega) (.cells #[.slice As ns cs, .slice Ak nk ck, .slice Ax nx cx, .slice Ay ny cy] 49)
  have hz1 : (w.alloc (.cells d.cs 46)).heap.size = w.heap.size + 1 := by simp
  have hz2 : ((w.alloc (.cells d.cs 46)).alloc (.cells #[.int .i64 p, .int .i64 q] 47)).heap.size = w.heap.size + 2 := by simp
  go_enter Tryd.func7, Tryd.ntmps7
  go_upto_region 1 with fail
  change Code.wp _ _ _ _ (((w.alloc (.cells d.cs 46)).alloc (.cells #[.int .i64 p, .int .i64 q] 47)).alloc (.cells #[.slice As ns cs, .slice Ak nk ck, .slice Ax nx cx, .slice Ay ny cy] 49))
  generalize (((w.alloc (.cells d.cs 46)).alloc (.cells #[.int .i64 p, .int .i64 q] 47)).alloc (.cells #[.slice As ns cs, .slice Ak nk ck, .slice Ax nx cx, .slice Ay ny cy] 49)) = w0 at hXd hXh hXx hKx ⊢
  rw [hz1] at hXh
  rw [hz2] at hXx
  clear hz1 hz2
  have hp0 := hXh.cell 0 _ rfl
  have hp1 := hXh.cell 1 _ rfl
  have hlh := hXh.lt
  have hx0 := hXx.cell 0 _ rfl
  have hx1 := hXx.cell 1 _ rfl
  have hx2 := hXx.cell 2 _ rfl
  have hx3 := hXx.cell 3 _ rfl
  have hlx := hXx.lt
  have hld := hXd.lt
  clear hXh hXx
  have hlhp := hlh
  have hlhq := hlh
  have hlxs := hlx
  have hlxk := hlx
  have hlxx := hlx
  have hlxy := hlx
  clear hlh hlx
  go_wp2_with fail
  (with_reducible refine (awake14_any w0 (hS.below hKx (Nat.le_refl _)) (hKT.bel hKx)).mono ?_)
  rintro e v1 ⟨rfl, hb1⟩
  have hK1 := bnx hKx hb1 hKx.size
  have hcp_1 := cell_bel hp0 hb1 hlhp
  have hlp_1 := Nat.lt_of_lt_of_le hlhp hb1.size
  have hcq_1 := cell_bel hp1 hb1 hlhq
  have hlq_1 := Nat.lt_of_lt_of_le hlhq hb1.size
  have hcs_1 := cell_bel hx0 hb1 hlxs
  have hls_1 := Nat.lt_of_lt_of_le hlxs hb1.size
  have hck_1 := cell_bel hx1 hb1 hlxk
  have hlk_1 := Nat.lt_of_lt_of_le hlxk hb1.size
  have hcx_1 := cell_bel hx2 hb1 hlxx
  have hlx_1 := Nat.lt_of_lt_of_le hlxx hb1.size
  have hcy_1 := cell_bel hx3 hb1 hlxy
  have hly_1 := Nat.lt_of_lt_of_le hlxy hb1.size
  have hcd_1 := hXd.below hb1 hld
  have hld_1 := Nat.lt_of_lt_of_le hld hb1.size
  clear hKx hp0 hlhp hp1 hlhq hx0 hlxs hx1 hlxk hx2 hlxx hx3 hlxy hXd hld hb1
  by_cases hgs : 1000 < ns
  · have hgsI : (1000 : Int) < (ns : Int) := by omega
    go_wp2_with fail
    go_ret
    exact ⟨rfl, hK1⟩
  have hgsI : ¬ (1000 : Int) < (ns : Int) := by omega
  by_cases hgk : 1000 < nk
  · have hgkI : (1000 : Int) < (nk : Int) := by omega
    go_wp2_with fail
    go_ret
    exact ⟨rfl, hK1⟩
  have hgkI : ¬ (1000 : Int) < (nk : Int) := by omega
  by_cases hgx : 1000 < nx
  · have hgxI : (1000 : Int) < (nx : Int) := by omega
    go_wp2_with fail
    go_ret
    exact ⟨rfl, hK1⟩
  have hgxI : ¬ (1000 : Int) < (nx : Int) := by omega
  by_cases hgy : 1000 < ny
  · have hgyI : (1000 : Int) < (ny : Int) := by omega
    go_wp2_with fail
    go_ret
    exact ⟨rfl, hK1⟩
  have hgyI : ¬ (1000 : Int) < (ny : Int) := by omega
  obtain ⟨kv, hkv⟩ : ∃ v, p % 4294967296 = v := ⟨_, rfl⟩
  have hk32 : W32 kv := by unfold W32; omega
  have hb8 : B8 (kv % 256) := by unfold B8; omega
  obtain ⟨mF, hmF⟩ : ∃ m, (fO seed d xl).length = m := ⟨_, rfl⟩
  obtain ⟨mH, hmH⟩ : ∃ m, (hO seed d xl yl).length = m := ⟨_, rfl⟩
  obtain ⟨mT, hmT⟩ : ∃ m, (twO q seed d xl).length = m := ⟨_, rfl⟩
  have hF32 : mF ≤ 32 := by have := fO_len seed d xl; omega
  have hH32 : mH ≤ 32 := by have := hO_len seed d xl yl; omega
  have hT32 : mT ≤ 32 := by have := twO_len q seed d xl; omega
  go_upto_region 7 with fail
  refine Ls.start (fun w' => Blk w' w.heap.size 46 d.cs ∧ w'.cell? ⟨w.heap.size + 2, 0, none⟩ = some (.slice As ns cs) ∧ w'.cell? ⟨w.heap.size + 2, 1, none⟩ = some (.slice Ak nk ck) ∧ w'.cell? ⟨w.heap.size + 2, 2, none⟩ = some (.slice Ax nx cx) ∧ w'.cell? ⟨w.heap.size + 2, 3, none⟩ = some (.slice Ay ny cy)) [(0, true), (1, true), (3, true), (4, true), (2, false), (5, false), (6, false), (7, true), (8, true), (10, true), (9, false), (11, false), (12, false), (13, true), (14, true), (15, true), (16, true), (17, true), (18, true), (19, true), (20, true), (22, true), (23, true), (24, true), (25, true), (26, true), (27, true), (21, false), (28, false), (29, false), (30, true), (31, true), (32, true), (33, true), (34, true), (35, true), (37, true), (38, true), (39, true), (40, true), (36, false), (41, false), (42, false), (43, true), (44, true), (45, true), (46, true), (47, true), (48, true), (49, true), (51, true), (52, true), (53, true), (54, true), (55, true), (50, false), (56, false), (57, false), (58, true), (59, true), (60, true), (61, true), (62, true), (63, true), (64, true), (65, true), (66, true), (68, true), (69, true), (70, true), (71, true), (72, true), (73, true), (74, true), (67, false), (75, false), (76, false), (77, true), (78, true), (79, true), (80, true), (81, true), (82, true), (83, true), (84, true), (86, true), (87, true), (88, true), (89, true), (90, true), (91, true), (85, false), (92, false), (93, false), (94, true), (95, true)] (by kernel_rfl) (by kernel_rfl) (by kernel_rfl) (by kernel_rfl) ⟨hcd_1.drew, hcs_1, hck_1, hcx_1, hcy_1⟩ ?_
  refine Ls.val (.agg d.cs) rfl (fun _ _ _ h => h) (by kernel_rfl) (fun w hw => exec_load_row w rfl (by kernel_rfl) Tryd.underlying46 rfl (by kernel_rfl) hw.1) ?_; (try simp (config := {maxSteps := 2000000}) only [Act.put, List.getElem_toArray, List.getElem_cons_succ, List.getElem_cons_zero, List.setIfInBounds_toArray, List.set_cons_zero, List.set_cons_succ])
  (refine Ls.val ?_ rfl (fun _ _ _ h => h) (by kernel_rfl) ?_ ?_; rotate_left 1; focus (intro w hw; go_simp; with_reducible rfl)); (try simp (config := {maxSteps := 2000000}) only [Act.put, List.getElem_toArray, List.getElem_cons_succ, List.getElem_cons_zero, List.setIfInBounds_toArray, List.set_cons_zero, List.set_cons_succ])
  refine Ls.val (.agg d.cs) rfl (fun _ _ _ h => h) (by kernel_rfl) (fun w hw => exec_load_row w rfl (by kernel_rfl) Tryd.underlying46 rfl (by kernel_rfl) hw.1) ?_; (try simp (config := {maxSteps := 2000000}) only [Act.put, List.getElem_toArray, List.getElem_cons_succ, List.getElem_cons_zero, List.setIfInBounds_toArray, List.set_cons_zero, List.set_cons_succ])
  (refine Ls.val ?_ rfl (fun _ _ _ h => h) (by kernel_rfl) ?_ ?_; rotate_left 1; focus (intro w hw; go_simp; with_reducible rfl)); (try simp (config := {maxSteps := 2000000}) only [Act.put, List.getElem_toArray, List.getElem_cons_succ, List.getElem_cons_zero, List.setIfInBounds_toArray, List.set_cons_zero, List.set_cons_succ])
  have hK2 := bdw hK1
  have hcp_2 := cdw hcp_1
  have hlp_2 := (show _ < v1.drew.heap.size from hlp_1)
  have hcq_2 := cdw hcq_1
  have hlq_2 := (show _ < v1.drew.heap.size from hlq_1)
  have hcs_2 := cdw hcs_1
  have hls_2 := (show _ < v1.drew.heap.size from hls_1)
  have hck_2 := cdw hck_1
  have hlk_2 := (show _ < v1.drew.heap.size from hlk_1)
  have hcx_2 := cdw hcx_1
  have hlx_2 := (show _ < v1.drew.heap.size from hlx_1)
  have hcy_2 := cdw hcy_1
  have hly_2 := (show _ < v1.drew.heap.size from hly_1)
  have hcd_2 := hcd_1.drew
  have hld_2 := (show _ < v1.drew.heap.size from hld_1)
  generalize v1.drew = v2 at hK2 hcp_2 hlp_2 hcq_2 hlq_2 hcs_2 hls_2 hck_2 hlk_2 hcx_2 hlx_2 hcy_2 hly_2 hcd_2 hld_2 ⊢
  clear hK1 hcp_1 hlp_1 hcq_1 hlq_1 hcs_1 hls_1 hck_1 hlk_1 hcx_1 hlx_1 hcy_1 hly_1 hcd_1 hld_1
  refine Ls.call rfl (by kernel_rfl) (by kernel_rfl) (fun _ => (bytes_any d kv v2 hd hk32).mono ?_)
  rintro e v3 ⟨A3, c3, rfl, hF3, hb3⟩
  have hK3 := bnx hK2 hb3 hK2.size
  have hcp_3 := cell_bel hcp_2 hb3 hlp_2
  have hlp_3 := Nat.lt_of_lt_of_le hlp_2 hb3.size
  have hcq_3 := cell_bel hcq_2 hb3 hlq_2
  have hlq_3 := Nat.lt_of_lt_of_le hlq_2 hb3.size
  have hcs_3 := cell_bel hcs_2 hb3 hls_2
  have hls_3 := Nat.lt_of_lt_of_le hls_2 hb3.size
  have hck_3 := cell_bel hck_2 hb3 hlk_2
  have hlk_3 := Nat.lt_of_lt_of_le hlk_2 hb3.size
  have hcx_3 := cell_bel hcx_2 hb3 hlx_2
  have hlx_3 := Nat.lt_of_lt_of_le hlx_2 hb3.size
  have hcy_3 := cell_bel hcy_2 hb3 hly_2
  have hly_3 := Nat.lt_of_lt_of_le hly_2 hb3.size
  have hcd_3 := hcd_2.below hb3 hld_2
  have hld_3 := Nat.lt_of_lt_of_le hld_2 hb3.size
  refine ⟨_, rfl, ⟨hcd_3, hcs_3, hck_3, hcx_3, hcy_3⟩, ?_⟩
  (try simp (config := {maxSteps := 2000000}) only [Act.put, List.getElem_toArray, List.getElem_cons_succ, List.getElem_cons_zero, List.setIfInBounds_toArray, List.set_cons_zero, List.set_cons_succ])
  have hRX := hF3.rd
  have hBX_3 := Below.refl v3.heap.size v3
  clear hK2 hcp_2 hlp_2 hcq_2 hlq_2 hcs_2 hls_2 hck_2 hlk_2 hcx_2 hlx_2 hcy_2 hly_2 hcd_2 hld_2 hb3 hF3
  refine Ls.call rfl (by kernel_rfl) (by kernel_rfl) (fun _ => (rbytes_any d kv v3 hd hk32).mono ?_)
  rintro e v4 ⟨A4, c4, rfl, hF4, hb4⟩
  have hK4 := bnx hK3 hb4 hK3.size
  have hBX_4 := bnx hBX_3 hb4 hBX_3.size
  have hcp_4 := cell_bel hcp_3 hb4 hlp_3
  have hlp_4 := Nat.lt_of_lt_of_le hlp_3 hb4.size
  have hcq_4 := cell_bel hcq_3 hb4 hlq_3
  have hlq_4 := Nat.lt_of_lt_of_le hlq_3 hb4.size
  have hcs_4 := cell_bel hcs_3 hb4 hls_3
  have hls_4 := Nat.lt_of_lt_of_le hls_3 hb4.size
  have hck_4 := cell_bel hck_3 hb4 hlk_3
  have hlk_4 := Nat.lt_of_lt_of_le hlk_3 hb4.size
  have hcx_4 := cell_bel hcx_3 hb4 hlx_3
  have hlx_4 := Nat.lt_of_lt_of_le hlx_3 hb4.size
  have hcy_4 := cell_bel hcy_3 hb4 hly_3
  have hly_4 := Nat.lt_of_lt_of_le hly_3 hb4.size
  have hcd_4 := hcd_3.below hb4 hld_3
  have hld_4 := Nat.lt_of_lt_of_le hld_3 hb4.size
  refine ⟨_, rfl, ⟨hcd_4, hcs_4, hck_4, hcx_4, hcy_4⟩, ?_⟩
  (try simp (config := {maxSteps := 2000000}) only [Act.put, List.getElem_toArray, List.getElem_cons_succ, List.getElem_cons_zero, List.setIfInBounds_toArray, List.set_cons_zero, List.set_cons_succ])
  have hRZ := hF4.rd
  have hBZ_4 := Below.refl v4.heap.size v4
  clear hK3 hBX_3 hcp_3 hlp_3 hcq_3 hlq_3 hcs_3 hls_3 hck_3 hlk_3 hcx_3 hlx_3 hcy_3 hly_3 hcd_3 hld_3 hb4 hF4
  refine Ls.call rfl (by kernel_rfl) (by kernel_rfl) (fun _ => (same_is_b v4 A3 A4 (adB d kv) 32 c3 c4 (hRX.bel hBX_4) (hRZ.bel hBZ_4) (adB_len _ _) (by omega)).mono ?_)
  rintro e v5 ⟨rfl, hb5⟩
  have hK5 := bnx hK4 hb5 hK4.size
  have hBX_5 := bnx hBX_4 hb5 hBX_4.size
  have hBZ_5 := bnx hBZ_4 hb5 hBZ_4.size
  have hcp_5 := cell_bel hcp_4 hb5 hlp_4
  have hlp_5 := Nat.lt_of_lt_of_le hlp_4 hb5.size
  have hcq_5 := cell_bel hcq_4 hb5 hlq_4
  have hlq_5 := Nat.lt_of_lt_of_le hlq_4 hb5.size
  have hcs_5 := cell_bel hcs_4 hb5 hls_4
  have hls_5 := Nat.lt_of_lt_of_le hls_4 hb5.size
  have hck_5 := cell_bel hck_4 hb5 hlk_4
  have hlk_5 := Nat.lt_of_lt_of_le hlk_4 hb5.size
  have hcx_5 := cell_bel hcx_4 hb5 hlx_4
  have hlx_5 := Nat.lt_of_lt_of_le hlx_4 hb5.size
  have hcy_5 := cell_bel hcy_4 hb5 hly_4
  have hly_5 := Nat.lt_of_lt_of_le hly_4 hb5.size
  have hcd_5 := hcd_4.below hb5 hld_4
  have hld_5 := Nat.lt_of_lt_of_le hld_4 hb5.size
  refine ⟨_, rfl, ⟨hcd_5, hcs_5, hck_5, hcx_5, hcy_5⟩, ?_⟩
  (try simp (config := {maxSteps := 2000000}) only [Act.put, List.getElem_toArray, List.getElem_cons_succ, List.getElem_cons_zero, List.setIfInBounds_toArray, List.set_cons_zero, List.set_cons_succ])
  clear hK4 hBX_4 hBZ_4 hcp_4 hlp_4 hcq_4 hlq_4 hcs_4 hls_4 hck_4 hlk_4 hcx_4 hlx_4 hcy_4 hly_4 hcd_4 hld_4 hb5
  clear hRX hRZ hBX_5 hBZ_5
  (refine Ls.val ?_ rfl (fun _ _ _ h => h) (by kernel_rfl) ?_ ?_; rotate_left 1; focus (intro w hw; go_simp; with_reducible rfl)); (try simp (config := {maxSteps := 2000000}) only [Act.put, List.getElem_toArray, List.getElem_cons_succ, List.getElem_cons_zero, List.setIfInBounds_toArray, List.set_cons_zero, List.set_cons_succ])
  refine Ls.val (.agg d.cs) rfl (fun _ _ _ h => h) (by kernel_rfl) (fun w hw => exec_load_row w rfl (by kernel_rfl) Tryd.underlying46 rfl (by kernel_rfl) hw.1) ?_; (try simp (config := {maxSteps := 2000000}) only [Act.put, List.getElem_toArray, List.getElem_cons_succ, List.getElem_cons_zero, List.setIfInBounds_toArray, List.set_cons_zero, List.set_cons_succ])
  refine Ls.val (.agg d.cs) rfl (fun _ _ _ h => h) (by kernel_rfl) (fun w hw => exec_load_row w rfl (by kernel_rfl) Tryd.underlying46 rfl (by kernel_rfl) hw.1) ?_; (try simp (config := {maxSteps := 2000000}) only [Act.put, List.getElem_toArray, List.getElem_cons_succ, List.getElem_cons_zero, List.setIfInBounds_toArray, List.set_cons_zero, List.set_cons_succ])
  refine Ls.call rfl (by kernel_rfl) (by kernel_rfl) (fun _ => (plain_any d v5 hd).mono ?_)
  rintro e v6 ⟨A6, c6, rfl, hF6, hb6⟩
  have hK6 := bnx hK5 hb6 hK5.size
  have hcp_6 := cell_bel hcp_5 hb6 hlp_5
  have hlp_6 := Nat.lt_of_lt_of_le hlp_5 hb6.size
  have hcq_6 := cell_bel hcq_5 hb6 hlq_5
  have hlq_6 := Nat.lt_of_lt_of_le hlq_5 hb6.size
  have hcs_6 := cell_bel hcs_5 hb6 hls_5
  have hls_6 := Nat.lt_of_lt_of_le hls_5 hb6.size
  have hck_6 := cell_bel hck_5 hb6 hlk_5
  have hlk_6 := Nat.lt_of_lt_of_le hlk_5 hb6.size
  have hcx_6 := cell_bel hcx_5 hb6 hlx_5
  have hlx_6 := Nat.lt_of_lt_of_le hlx_5 hb6.size
  have hcy_6 := cell_bel hcy_5 hb6 hly_5
  have hly_6 := Nat.lt_of_lt_of_le hly_5 hb6.size
  have hcd_6 := hcd_5.below hb6 hld_5
  have hld_6 := Nat.lt_of_lt_of_le hld_5 hb6.size
  refine ⟨_, rfl, ⟨hcd_6, hcs_6, hck_6, hcx_6, hcy_6⟩, ?_⟩
  (try simp (config := {maxSteps := 2000000}) only [Act.put, List.getElem_toArray, List.getElem_cons_succ, List.getElem_cons_zero, List.setIfInBounds_toArray, List.set_cons_zero, List.set_cons_succ])
  have hRX := hF6.rd
  have hBX_6 := Below.refl v6.heap.size v6
  clear hK5 hcp_5 hlp_5 hcq_5 hlq_5 hcs_5 hls_5 hck_5 hlk_5 hcx_5 hlx_5 hcy_5 hly_5 hcd_5 hld_5 hb6 hF6
  refine Ls.call rfl (by kernel_rfl) (by kernel_rfl) (fun _ => (rplain_any d v6 hd).mono ?_)
  rintro e v7 ⟨A7, c7, rfl, hF7, hb7⟩
  have hK7 := bnx hK6 hb7 hK6.size
  have hBX_7 := bnx hBX_6 hb7 hBX_6.size
  have hcp_7 := cell_bel hcp_6 hb7 hlp_6
  have hlp_7 := Nat.lt_of_lt_of_le hlp_6 hb7.size
  have hcq_7 := cell_bel hcq_6 hb7 hlq_6
  have hlq_7 := Nat.lt_of_lt_of_le hlq_6 hb7.size
  have hcs_7 := cell_bel hcs_6 hb7 hls_6
  have hls_7 := Nat.lt_of_lt_of_le hls_6 hb7.size
  have hck_7 := cell_bel hck_6 hb7 hlk_6
  have hlk_7 := Nat.lt_of_lt_of_le hlk_6 hb7.size
  have hcx_7 := cell_bel hcx_6 hb7 hlx_6
  have hlx_7 := Nat.lt_of_lt_of_le hlx_6 hb7.size
  have hcy_7 := cell_bel hcy_6 hb7 hly_6
  have hly_7 := Nat.lt_of_lt_of_le hly_6 hb7.size
  have hcd_7 := hcd_6.below hb7 hld_6
  have hld_7 := Nat.lt_of_lt_of_le hld_6 hb7.size
  refine ⟨_, rfl, ⟨hcd_7, hcs_7, hck_7, hcx_7, hcy_7⟩, ?_⟩
  (try simp (config := {maxSteps := 2000000}) only [Act.put, List.getElem_toArray, List.getElem_cons_succ, List.getElem_cons_zero, List.setIfInBounds_toArray, List.set_cons_zero, List.set_cons_succ])
  have hRZ := hF7.rd
  have hBZ_7 := Below.refl v7.heap.size v7
  clear hK6 hBX_6 hcp_6 hlp_6 hcq_6 hlq_6 hcs_6 hls_6 hck_6 hlk_6 hcx_6 hlx_6 hcy_6 hly_6 hcd_6 hld_6 hb7 hF7
  refine Ls.call rfl (by kernel_rfl) (by kernel_rfl) (fun _ => (same_is_b v7 A6 A7 (adP d) 32 c6 c7 (hRX.bel hBX_7) (hRZ.bel hBZ_7) (adP_len _) (by omega)).mono ?_)
  rintro e v8 ⟨rfl, hb8⟩
  have hK8 := bnx hK7 hb8 hK7.size
  have hBX_8 := bnx hBX_7 hb8 hBX_7.size
  have hBZ_8 := bnx hBZ_7 hb8 hBZ_7.size
  have hcp_8 := cell_bel hcp_7 hb8 hlp_7
  have hlp_8 := Nat.lt_of_lt_of_le hlp_7 hb8.size
  have hcq_8 := cell_bel hcq_7 hb8 hlq_7
  have hlq_8 := Nat.lt_of_lt_of_le hlq_7 hb8.size
  have hcs_8 := cell_bel hcs_7 hb8 hls_7
  have hls_8 := Nat.lt_of_lt_of_le hls_7 hb8.size
  have hck_8 := cell_bel hck_7 hb8 hlk_7
  have hlk_8 := Nat.lt_of_lt_of_le hlk_7 hb8.size
  have hcx_8 := cell_bel hcx_7 hb8 hlx_7
  have hlx_8 := Nat.lt_of_lt_of_le hlx_7 hb8.size
  have hcy_8 := cell_bel hcy_7 hb8 hly_7
  have hly_8 := Nat.lt_of_lt_of_le hly_7 hb8.size
  have hcd_8 := hcd_7.below hb8 hld_7
  have hld_8 := Nat.lt_of_lt_of_le hld_7 hb8.size
  refine ⟨_, rfl, ⟨hcd_8, hcs_8, hck_8, hcx_8, hcy_8⟩, ?_⟩
  (try simp (config := {maxSteps := 2000000}) only [Act.put, List.getElem_toArray, List.getElem_cons_succ, List.getElem_cons_zero, List.setIfInBounds_toArray, List.set_cons_zero, List.set_cons_succ])
  clear hK7 hBX_7 hBZ_7 hcp_7 hlp_7 hcq_7 hlq_7 hcs_7 hls_7 hck_7 hlk_7 hcx_7 hlx_7 hcy_7 hly_7 hcd_7 hld_7 hb8
  clear hRX hRZ hBX_8 hBZ_8
  (refine Ls.val ?_ rfl (fun _ _ _ h => h) (by kernel_rfl) ?_ ?_; rotate_left 1; focus (intro w hw; go_simp; with_reducible rfl)); (try simp (config := {maxSteps := 2000000}) only [Act.put, List.getElem_toArray, List.getElem_cons_succ, List.getElem_cons_zero, List.setIfInBounds_toArray, List.set_cons_zero, List.set_cons_succ])
  (refine Ls.val ?_ rfl (fun _ _ _ h => h) (by kernel_rfl) ?_ ?_; rotate_left 1; focus (intro w hw; go_simp; with_reducible rfl)); (try simp (config := {maxSteps := 2000000}) only [Act.put, List.getElem_toArray, List.getElem_cons_succ, List.getElem_cons_zero, List.setIfInBounds_toArray, List.set_cons_zero, List.set_cons_succ])
  (refine Ls.val ?_ rfl (fun _ _ _ h => h) (by kernel_rfl) ?_ ?_; rotate_left 1; focus (intro w hw; go_simp; with_reducible rfl)); (try simp (config := {maxSteps := 2000000}) only [Act.put, List.getElem_toArray, List.getElem_cons_succ, List.getElem_cons_zero, List.setIfInBounds_toArray, List.set_cons_zero, List.set_cons_succ])
  (refine Ls.val ?_ rfl (fun _ _ _ h => h) (by kernel_rfl) ?_ ?_; rotate_left 1; focus (intro w hw; go_simp; with_reducible rfl)); (try simp (config := {maxSteps := 2000000}) only [Act.put, List.getElem_toArray, List.getElem_cons_succ, List.getElem_cons_zero, List.setIfInBounds_toArray, List.set_cons_zero, List.set_cons_succ])
  (refine Ls.val ?_ rfl (fun _ _ _ h => h) (by kernel_rfl) ?_ ?_; rotate_left 1; focus (intro w hw; go_simp; with_reducible rfl)); (try simp (config := {maxSteps := 2000000}) only [Act.put, List.getElem_toArray, List.getElem_cons_succ, List.getElem_cons_zero, List.setIfInBounds_toArray, List.set_cons_zero, List.set_cons_succ])
  (refine Ls.val ?_ rfl (fun _ _ _ h => h) (by kernel_rfl) ?_ ?_; rotate_left 1; focus (intro w hw; have hcell := hw.2.2.1; go_simp; with_reducible rfl)); (try simp (config := {maxSteps := 2000000}) only [Act.put, List.getElem_toArray, List.getElem_cons_succ, List.getElem_cons_zero, List.setIfInBounds_toArray, List.set_cons_zero, List.set_cons_succ])
  (refine Ls.val ?_ rfl (fun _ _ _ h => h) (by kernel_rfl) ?_ ?_; rotate_left 1; focus (intro w hw; go_simp; with_reducible rfl)); (try simp (config := {maxSteps := 2000000}) only [Act.put, List.getElem_toArray, List.getElem_cons_succ, List.getElem_cons_zero, List.setIfInBounds_toArray, List.set_cons_zero, List.set_cons_succ])
  (refine Ls.val ?_ rfl (fun _ _ _ h => h) (by kernel_rfl) ?_ ?_; rotate_left 1; focus (intro w hw; have hcell := hw.2.2.2.1; go_simp; with_reducible rfl)); (try simp (config := {maxSteps := 2000000}) only [Act.put, List.getElem_toArray, List.getElem_cons_succ, List.getElem_cons_zero, List.setIfInBounds_toArray, List.set_cons_zero, List.set_cons_succ])
  (refine Ls.val ?_ rfl (fun _ _ _ h => h) (by kernel_rfl) ?_ ?_; rotate_left 1; focus (intro w hw; go_simp; with_reducible rfl)); (try simp (config := {maxSteps := 2000000}) only [Act.put, List.getElem_toArray, List.getElem_cons_succ, List.getElem_cons_zero, List.setIfInBounds_toArray, List.set_cons_zero, List.set_cons_succ])
  (refine Ls.val ?_ rfl (fun _ _ _ h => h) (by kernel_rfl) ?_ ?_; rotate_left 1; focus (intro w hw; go_simp; with_reducible rfl)); (try simp (config := {maxSteps := 2000000}) only [Act.put, List.getElem_toArray, List.getElem_cons_succ, List.getElem_cons_zero, List.setIfInBounds_toArray, List.set_cons_zero, List.set_cons_succ])
  (refine Ls.val ?_ rfl (fun _ _ _ h => h) (by kernel_rfl) ?_ ?_; rotate_left 1; focus (intro w hw; go_simp; with_reducible rfl)); (try simp (config := {maxSteps := 2000000}) only [Act.put, List.getElem_toArray, List.getElem_cons_succ, List.getElem_cons_zero, List.setIfInBounds_toArray, List.set_cons_zero, List.set_cons_succ])
  (refine Ls.val ?_ rfl (fun _ _ _ h => h) (by kernel_rfl) ?_ ?_; rotate_left 1; focus (intro w hw; have hcell := hw.2.2.1; go_simp; with_reducible rfl)); (try simp (config := {maxSteps := 2000000}) only [Act.put, List.getElem_toArray, List.getElem_cons_succ, List.getElem_cons_zero, List.setIfInBounds_toArray, List.set_cons_zero, List.set_cons_succ])
  (refine Ls.val ?_ rfl (fun _ _ _ h => h) (by kernel_rfl) ?_ ?_; rotate_left 1; focus (intro w hw; go_simp; with_reducible rfl)); (try simp (config := {maxSteps := 2000000}) only [Act.put, List.getElem_toArray, List.getElem_cons_succ, List.getElem_cons_zero, List.setIfInBounds_toArray, List.set_cons_zero, List.set_cons_succ])
  (refine Ls.val ?_ rfl (fun _ _ _ h => h) (by kernel_rfl) ?_ ?_; rotate_left 1; focus (intro w hw; have hcell := hw.2.2.2.1; go_simp; with_reducible rfl)); (try simp (config := {maxSteps := 2000000}) only [Act.put, List.getElem_toArray, List.getElem_cons_succ, List.getElem_cons_zero, List.setIfInBounds_toArray, List.set_cons_zero, List.set_cons_succ])
  refine Ls.call rfl (by kernel_rfl) (by kernel_rfl) (fun _ => (num_any (kv % 256) key xl Ak Ax nk ck nx cx v8 hb8 (hk.bel hK8) hnk (by omega) (by omega) hbk (hx.bel hK8) hnx (by omega) (by omega) hbx (hS.below hK8 (Nat.le_refl _))).mono ?_)
  rintro e v9 ⟨A9, c9, rfl, hF9, hb9⟩
  have hK9 := bnx hK8 hb9 hK8.size
  have hcp_9 := cell_bel hcp_8 hb9 hlp_8
  have hlp_9 := Nat.lt_of_lt_of_le hlp_8 hb9.size
  have hcq_9 := cell_bel hcq_8 hb9 hlq_8
  have hlq_9 := Nat.lt_of_lt_of_le hlq_8 hb9.size
  have hcs_9 := cell_bel hcs_8 hb9 hls_8
  have hls_9 := Nat.lt_of_lt_of_le hls_8 hb9.size
  have hck_9 := cell_bel hck_8 hb9 hlk_8
  have hlk_9 := Nat.lt_of_lt_of_le hlk_8 hb9.size
  have hcx_9 := cell_bel hcx_8 hb9 hlx_8
  have hlx_9 := Nat.lt_of_lt_of_le hlx_8 hb9.size
  have hcy_9 := cell_bel hcy_8 hb9 hly_8
  have hly_9 := Nat.lt_of_lt_of_le hly_8 hb9.size
  have hcd_9 := hcd_8.below hb9 hld_8
  have hld_9 := Nat.lt_of_lt_of_le hld_8 hb9.size
  refine ⟨_, rfl, ⟨hcd_9, hcs_9, hck_9, hcx_9, hcy_9⟩, ?_⟩
  (try simp (config := {maxSteps := 2000000}) only [Act.put, List.getElem_toArray, List.getElem_cons_succ, List.getElem_cons_zero, List.setIfInBounds_toArray, List.set_cons_zero, List.set_cons_succ])
  have hRX := hF9.rd
  have hBX_9 := Below.refl v9.heap.size v9
  clear hK8 hcp_8 hlp_8 hcq_8 hlq_8 hcs_8 hls_8 hck_8 hlk_8 hcx_8 hlx_8 hcy_8 hly_8 hcd_8 hld_8 hb9 hF9
  refine Ls.call rfl (by kernel_rfl) (by kernel_rfl) (fun _ => (rnum_any (kv % 256) key xl Ak Ax nk ck nx cx v9 hb8 (hk.bel hK9) hnk (by omega) (by omega) hbk (hx.bel hK9) hnx (by omega) (by omega) hbx).mono ?_)
  rintro e v10 ⟨A10, c10, rfl, hF10, hb10⟩
  have hK10 := bnx hK9 hb10 hK9.size
  have hBX_10 := bnx hBX_9 hb10 hBX_9.size
  have hcp_10 := cell_bel hcp_9 hb10 hlp_9
  have hlp_10 := Nat.lt_of_lt_of_le hlp_9 hb10.size
  have hcq_10 := cell_bel hcq_9 hb10 hlq_9
  have hlq_10 := Nat.lt_of_lt_of_le hlq_9 hb10.size
  have hcs_10 := cell_bel hcs_9 hb10 hls_9
  have hls_10 := Nat.lt_of_lt_of_le hls_9 hb10.size
  have hck_10 := cell_bel hck_9 hb10 hlk_9
  have hlk_10 := Nat.lt_of_lt_of_le hlk_9 hb10.size
  have hcx_10 := cell_bel hcx_9 hb10 hlx_9
  have hlx_10 := Nat.lt_of_lt_of_le hlx_9 hb10.size
  have hcy_10 := cell_bel hcy_9 hb10 hly_9
  have hly_10 := Nat.lt_of_lt_of_le hly_9 hb10.size
  have hcd_10 := hcd_9.below hb10 hld_9
  have hld_10 := Nat.lt_of_lt_of_le hld_9 hb10.size
  refine ⟨_, rfl, ⟨hcd_10, hcs_10, hck_10, hcx_10, hcy_10⟩, ?_⟩
  (try simp (config := {maxSteps := 2000000}) only [Act.put, List.getElem_toArray, List.getElem_cons_succ, List.getElem_cons_zero, List.setIfInBounds_toArray, List.set_cons_zero, List.set_cons_succ])
  have hRZ := hF10.rd
  have hBZ_10 := Below.refl v10.heap.size v10
  clear hK9 hBX_9 hcp_9 hlp_9 hcq_9 hlq_9 hcs_9 hls_9 hck_9 hlk_9 hcx_9 hlx_9 hcy_9 hly_9 hcd_9 hld_9 hb10 hF10
  refine Ls.call rfl (by kernel_rfl) (by kernel_rfl) (fun _ => (same_is_b v10 A9 A10 (numL (kv % 256) key xl) 32 c9 c10 (hRX.bel hBX_10) (hRZ.bel hBZ_10) (numL_len _ _ _) (by omega)).mono ?_)
  rintro e v11 ⟨rfl, hb11⟩
  have hK11 := bnx hK10 hb11 hK10.size
  have hBX_11 := bnx hBX_10 hb11 hBX_10.size
  have hBZ_11 := bnx hBZ_10 hb11 hBZ_10.size
  have hcp_11 := cell_bel hcp_10 hb11 hlp_10
  have hlp_11 := Nat.lt_of_lt_of_le hlp_10 hb11.size
  have hcq_11 := cell_bel hcq_10 hb11 hlq_10
  have hlq_11 := Nat.lt_of_lt_of_le hlq_10 hb11.size
  have hcs_11 := cell_bel hcs_10 hb11 hls_10
  have hls_11 := Nat.lt_of_lt_of_le hls_10 hb11.size
  have hck_11 := cell_bel hck_10 hb11 hlk_10
  have hlk_11 := Nat.lt_of_lt_of_le hlk_10 hb11.size
  have hcx_11 := cell_bel hcx_10 hb11 hlx_10
  have hlx_11 := Nat.lt_of_lt_of_le hlx_10 hb11.size
  have hcy_11 := cell_bel hcy_10 hb11 hly_10
  have hly_11 := Nat.lt_of_lt_of_le hly_10 hb11.size
  have hcd_11 := hcd_10.below hb11 hld_10
  have hld_11 := Nat.lt_of_lt_of_le hld_10 hb11.size
  refine ⟨_, rfl, ⟨hcd_11, hcs_11, hck_11, hcx_11, hcy_11⟩, ?_⟩
  (try simp (config := {maxSteps := 2000000}) only [Act.put, List.getElem_toArray, List.getElem_cons_succ, List.getElem_cons_zero, List.setIfInBounds_toArray, List.set_cons_zero, List.set_cons_succ])
  clear hK10 hBX_10 hBZ_10 hcp_10 hlp_10 hcq_10 hlq_10 hcs_10 hls_10 hck_10 hlk_10 hcx_10 hlx_10 hcy_10 hly_10 hcd_10 hld_10 hb11
  clear hRX hRZ hBX_11 hBZ_11
  (refine Ls.val ?_ rfl (fun _ _ _ h => h) (by kernel_rfl) ?_ ?_; rotate_left 1; focus (intro w hw; go_simp; with_reducible rfl)); (try simp (config := {maxSteps := 2000000}) only [Act.put, List.getElem_toArray, List.getElem_cons_succ, List.getElem_cons_zero, List.setIfInBounds_toArray, List.set_cons_zero, List.set_cons_succ])
  (refine Ls.val ?_ rfl (fun _ _ _ h => h) (by kernel_rfl) ?_ ?_; rotate_left 1; focus (intro w hw; go_simp; with_reducible rfl)); (try simp (config := {maxSteps := 2000000}) only [Act.put, List.getElem_toArray, List.getElem_cons_succ, List.getElem_cons_zero, List.setIfInBounds_toArray, List.set_cons_zero, List.set_cons_succ])
  (refine Ls.val ?_ rfl (fun _ _ _ h => h) (by kernel_rfl) ?_ ?_; rotate_left 1; focus (intro w hw; go_simp; with_reducible rfl)); (try simp (config := {maxSteps := 2000000}) only [Act.put, List.getElem_toArray, List.getElem_cons_succ, List.getElem_cons_zero, List.setIfInBounds_toArray, List.set_cons_zero, List.set_cons_succ])
  (refine Ls.val ?_ rfl (fun _ _ _ h => h) (by kernel_rfl) ?_ ?_; rotate_left 1; focus (intro w hw; have hcell := hw.2.2.1; go_simp; with_reducible rfl)); (try simp (config := {maxSteps := 2000000}) only [Act.put, List.getElem_toArray, List.getElem_cons_succ, List.getElem_cons_zero, List.setIfInBounds_toArray, List.set_cons_zero, List.set_cons_succ])
  (refine Ls.val ?_ rfl (fun _ _ _ h => h) (by kernel_rfl) ?_ ?_; rotate_left 1; focus (intro w hw; go_simp; with_reducible rfl)); (try simp (config := {maxSteps := 2000000}) only [Act.put, List.getElem_toArray, List.getElem_cons_succ, List.getElem_cons_zero, List.setIfInBounds_toArray, List.set_cons_zero, List.set_cons_succ])
  (refine Ls.val ?_ rfl (fun _ _ _ h => h) (by kernel_rfl) ?_ ?_; rotate_left 1; focus (intro w hw; have hcell := hw.2.2.2.1; go_simp; with_reducible rfl)); (try simp (config := {maxSteps := 2000000}) only [Act.put, List.getElem_toArray, List.getElem_cons_succ, List.getElem_cons_zero, List.setIfInBounds_toArray, List.set_cons_zero, List.set_cons_succ])
  (refine Ls.val ?_ rfl (fun _ _ _ h => h) (by kernel_rfl) ?_ ?_; rotate_left 1; focus (intro w hw; go_simp; with_reducible rfl)); (try simp (config := {maxSteps := 2000000}) only [Act.put, List.getElem_toArray, List.getElem_cons_succ, List.getElem_cons_zero, List.setIfInBounds_toArray, List.set_cons_zero, List.set_cons_succ])
  (refine Ls.val ?_ rfl (fun _ _ _ h => h) (by kernel_rfl) ?_ ?_; rotate_left 1; focus (intro w hw; have hcell := hw.2.2.1; go_simp; with_reducible rfl)); (try simp (config := {maxSteps := 2000000}) only [Act.put, List.getElem_toArray, List.getElem_cons_succ, List.getElem_cons_zero, List.setIfInBounds_toArray, List.set_cons_zero, List.set_cons_succ])
  (refine Ls.val ?_ rfl (fun _ _ _ h => h) (by kernel_rfl) ?_ ?_; rotate_left 1; focus (intro w hw; go_simp; with_reducible rfl)); (try simp (config := {maxSteps := 2000000}) only [Act.put, List.getElem_toArray, List.getElem_cons_succ, List.getElem_cons_zero, List.setIfInBounds_toArray, List.set_cons_zero, List.set_cons_succ])
  (refine Ls.val ?_ rfl (fun _ _ _ h => h) (by kernel_rfl) ?_ ?_; rotate_left 1; focus (intro w hw; have hcell := hw.2.2.2.1; go_simp; with_reducible rfl)); (try simp (config := {maxSteps := 2000000}) only [Act.put, List.getElem_toArray, List.getElem_cons_succ, List.getElem_cons_zero, List.setIfInBounds_toArray, List.set_cons_zero, List.set_cons_succ])
  refine Ls.call rfl (by kernel_rfl) (by kernel_rfl) (fun _ => (prf_any key xl Ak Ax nk ck nx cx v11 (hk.bel hK11) hnk (by omega) (by omega) hbk (hx.bel hK11) hnx (by omega) (by omega) hbx (hS.below hK11 (Nat.le_refl _))).mono ?_)
  rintro e v12 ⟨A12, c12, rfl, hF12, hb12⟩
  have hK12 := bnx hK11 hb12 hK11.size
  have hcp_12 := cell_bel hcp_11 hb12 hlp_11
  have hlp_12 := Nat.lt_of_lt_of_le hlp_11 hb12.size
  have hcq_12 := cell_bel hcq_11 hb12 hlq_11
  have hlq_12 := Nat.lt_of_lt_of_le hlq_11 hb12.size
  have hcs_12 := cell_bel hcs_11 hb12 hls_11
  have hls_12 := Nat.lt_of_lt_of_le hls_11 hb12.size
  have hck_12 := cell_bel hck_11 hb12 hlk_11
  have hlk_12 := Nat.lt_of_lt_of_le hlk_11 hb12.size
  have hcx_12 := cell_bel hcx_11 hb12 hlx_11
  have hlx_12 := Nat.lt_of_lt_of_le hlx_11 hb12.size
  have hcy_12 := cell_bel hcy_11 hb12 hly_11
  have hly_12 := Nat.lt_of_lt_of_le hly_11 hb12.size
  have hcd_12 := hcd_11.below hb12 hld_11
  have hld_12 := Nat.lt_of_lt_of_le hld_11 hb12.size
  refine ⟨_, rfl, ⟨hcd_12, hcs_12, hck_12, hcx_12, hcy_12⟩, ?_⟩
  (try simp (config := {maxSteps := 2000000}) only [Act.put, List.getElem_toArray, List.getElem_cons_succ, List.getElem_cons_zero, List.setIfInBounds_toArray, List.set_cons_zero, List.set_cons_succ])
  have hRX := hF12.rd
  have hBX_12 := Below.refl v12.heap.size v12
  clear hK11 hcp_11 hlp_11 hcq_11 hlq_11 hcs_11 hls_11 hck_11 hlk_11 hcx_11 hlx_11 hcy_11 hly_11 hcd_11 hld_11 hb12 hF12
  refine Ls.call rfl (by kernel_rfl) (by kernel_rfl) (fun _ => (rprf_any key xl Ak Ax nk ck nx cx v12 (hk.bel hK12) hnk (by omega) (by omega) hbk (hx.bel hK12) hnx (by omega) (by omega) hbx).mono ?_)
  rintro e v13 ⟨A13, c13, rfl, hF13, hb13⟩
  have hK13 := bnx hK12 hb13 hK12.size
  have hBX_13 := bnx hBX_12 hb13 hBX_12.size
  have hcp_13 := cell_bel hcp_12 hb13 hlp_12
  have hlp_13 := Nat.lt_of_lt_of_le hlp_12 hb13.size
  have hcq_13 := cell_bel hcq_12 hb13 hlq_12
  have hlq_13 := Nat.lt_of_lt_of_le hlq_12 hb13.size
  have hcs_13 := cell_bel hcs_12 hb13 hls_12
  have hls_13 := Nat.lt_of_lt_of_le hls_12 hb13.size
  have hck_13 := cell_bel hck_12 hb13 hlk_12
  have hlk_13 := Nat.lt_of_lt_of_le hlk_12 hb13.size
  have hcx_13 := cell_bel hcx_12 hb13 hlx_12
  have hlx_13 := Nat.lt_of_lt_of_le hlx_12 hb13.size
  have hcy_13 := cell_bel hcy_12 hb13 hly_12
  have hly_13 := Nat.lt_of_lt_of_le hly_12 hb13.size
  have hcd_13 := hcd_12.below hb13 hld_12
  have hld_13 := Nat.lt_of_lt_of_le hld_12 hb13.size
  refine ⟨_, rfl, ⟨hcd_13, hcs_13, hck_13, hcx_13, hcy_13⟩, ?_⟩
  (try simp (config := {maxSteps := 2000000}) only [Act.put, List.getElem_toArray, List.getElem_cons_succ, List.getElem_cons_zero, List.setIfInBounds_toArray, List.set_cons_zero, List.set_cons_succ])
  have hRZ := hF13.rd
  have hBZ_13 := Below.refl v13.heap.size v13
  clear hK12 hBX_12 hcp_12 hlp_12 hcq_12 hlq_12 hcs_12 hls_12 hck_12 hlk_12 hcx_12 hlx_12 hcy_12 hly_12 hcd_12 hld_12 hb13 hF13
  refine Ls.call rfl (by kernel_rfl) (by kernel_rfl) (fun _ => (same_is_b v13 A12 A13 (prfL key xl) 32 c12 c13 (hRX.bel hBX_13) (hRZ.bel hBZ_13) (prfL_len _ _) (by omega)).mono ?_)
  rintro e v14 ⟨rfl, hb14⟩
  have hK14 := bnx hK13 hb14 hK13.size
  have hBX_14 := bnx hBX_13 hb14 hBX_13.size
  have hBZ_14 := bnx hBZ_13 hb14 hBZ_13.size
  have hcp_14 := cell_bel hcp_13 hb14 hlp_13
  have hlp_14 := Nat.lt_of_lt_of_le hlp_13 hb14.size
  have hcq_14 := cell_bel hcq_13 hb14 hlq_13
  have hlq_14 := Nat.lt_of_lt_of_le hlq_13 hb14.size
  have hcs_14 := cell_bel hcs_13 hb14 hls_13
  have hls_14 := Nat.lt_of_lt_of_le hls_13 hb14.size
  have hck_14 := cell_bel hck_13 hb14 hlk_13
  have hlk_14 := Nat.lt_of_lt_of_le hlk_13 hb14.size
  have hcx_14 := cell_bel hcx_13 hb14 hlx_13
  have hlx_14 := Nat.lt_of_lt_of_le hlx_13 hb14.size
  have hcy_14 := cell_bel hcy_13 hb14 hly_13
  have hly_14 := Nat.lt_of_lt_of_le hly_13 hb14.size
  have hcd_14 := hcd_13.below hb14 hld_13
  have hld_14 := Nat.lt_of_lt_of_le hld_13 hb14.size
  refine ⟨_, rfl, ⟨hcd_14, hcs_14, hck_14, hcx_14, hcy_14⟩, ?_⟩
  (try simp (config := {maxSteps := 2000000}) only [Act.put, List.getElem_toArray, List.getElem_cons_succ, List.getElem_cons_zero, List.setIfInBounds_toArray, List.set_cons_zero, List.set_cons_succ])
  clear hK13 hBX_13 hBZ_13 hcp_13 hlp_13 hcq_13 hlq_13 hcs_13 hls_13 hck_13 hlk_13 hcx_13 hlx_13 hcy_13 hly_13 hcd_13 hld_13 hb14
  clear hRX hRZ hBX_14 hBZ_14
  (refine Ls.val ?_ rfl (fun _ _ _ h => h) (by kernel_rfl) ?_ ?_; rotate_left 1; focus (intro w hw; go_simp; with_reducible rfl)); (try simp (config := {maxSteps := 2000000}) only [Act.put, List.getElem_toArray, List.getElem_cons_succ, List.getElem_cons_zero, List.setIfInBounds_toArray, List.set_cons_zero, List.set_cons_succ])
  (refine Ls.val ?_ rfl (fun _ _ _ h => h) (by kernel_rfl) ?_ ?_; rotate_left 1; focus (intro w hw; go_simp; with_reducible rfl)); (try simp (config := {maxSteps := 2000000}) only [Act.put, List.getElem_toArray, List.getElem_cons_succ, List.getElem_cons_zero, List.setIfInBounds_toArray, List.set_cons_zero, List.set_cons_succ])
  (refine Ls.val ?_ rfl (fun _ _ _ h => h) (by kernel_rfl) ?_ ?_; rotate_left 1; focus (intro w hw; go_simp; with_reducible rfl)); (try simp (config := {maxSteps := 2000000}) only [Act.put, List.getElem_toArray, List.getElem_cons_succ, List.getElem_cons_zero, List.setIfInBounds_toArray, List.set_cons_zero, List.set_cons_succ])
  (refine Ls.val ?_ rfl (fun _ _ _ h => h) (by kernel_rfl) ?_ ?_; rotate_left 1; focus (intro w hw; have hcell := hw.2.1; go_simp; with_reducible rfl)); (try simp (config := {maxSteps := 2000000}) only [Act.put, List.getElem_toArray, List.getElem_cons_succ, List.getElem_cons_zero, List.setIfInBounds_toArray, List.set_cons_zero, List.set_cons_succ])
  refine Ls.val (.agg d.cs) rfl (fun _ _ _ h => h) (by kernel_rfl) (fun w hw => exec_load_row w rfl (by kernel_rfl) Tryd.underlying46 rfl (by kernel_rfl) hw.1) ?_; (try simp (config := {maxSteps := 2000000}) only [Act.put, List.getElem_toArray, List.getElem_cons_succ, List.getElem_cons_zero, List.setIfInBounds_toArray, List.set_cons_zero, List.set_cons_succ])
  (refine Ls.val ?_ rfl (fun _ _ _ h => h) (by kernel_rfl) ?_ ?_; rotate_left 1; focus (intro w hw; go_simp; with_reducible rfl)); (try simp (config := {maxSteps := 2000000}) only [Act.put, List.getElem_toArray, List.getElem_cons_succ, List.getElem_cons_zero, List.setIfInBounds_toArray, List.set_cons_zero, List.set_cons_succ])
  (refine Ls.val ?_ rfl (fun _ _ _ h => h) (by kernel_rfl) ?_ ?_; rotate_left 1; focus (intro w hw; have hcell := hw.2.2.2.1; go_simp; with_reducible rfl)); (try simp (config := {maxSteps := 2000000}) only [Act.put, List.getElem_toArray, List.getElem_cons_succ, List.getElem_cons_zero, List.setIfInBounds_toArray, List.set_cons_zero, List.set_cons_succ])
  (refine Ls.val ?_ rfl (fun _ _ _ h => h) (by kernel_rfl) ?_ ?_; rotate_left 1; focus (intro w hw; go_simp; with_reducible rfl)); (try simp (config := {maxSteps := 2000000}) only [Act.put, List.getElem_toArray, List.getElem_cons_succ, List.getElem_cons_zero, List.setIfInBounds_toArray, List.set_cons_zero, List.set_cons_succ])
  (refine Ls.val ?_ rfl (fun _ _ _ h => h) (by kernel_rfl) ?_ ?_; rotate_left 1; focus (intro w hw; have hcell := hw.2.1; go_simp; with_reducible rfl)); (try simp (config := {maxSteps := 2000000}) only [Act.put, List.getElem_toArray, List.getElem_cons_succ, List.getElem_cons_zero, List.setIfInBounds_toArray, List.set_cons_zero, List.set_cons_succ])
  refine Ls.val (.agg d.cs) rfl (fun _ _ _ h => h) (by kernel_rfl) (fun w hw => exec_load_row w rfl (by kernel_rfl) Tryd.underlying46 rfl (by kernel_rfl) hw.1) ?_; (try simp (config := {maxSteps := 2000000}) only [Act.put, List.getElem_toArray, List.getElem_cons_succ, List.getElem_cons_zero, List.setIfInBounds_toArray, List.set_cons_zero, List.set_cons_succ])
  (refine Ls.val ?_ rfl (fun _ _ _ h => h) (by kernel_rfl) ?_ ?_; rotate_left 1; focus (intro w hw; go_simp; with_reducible rfl)); (try simp (config := {maxSteps := 2000000}) only [Act.put, List.getElem_toArray, List.getElem_cons_succ, List.getElem_cons_zero, List.setIfInBounds_toArray, List.set_cons_zero, List.set_cons_succ])
  (refine Ls.val ?_ rfl (fun _ _ _ h => h) (by kernel_rfl) ?_ ?_; rotate_left 1; focus (intro w hw; have hcell := hw.2.2.2.1; go_simp; with_reducible rfl)); (try simp (config := {maxSteps := 2000000}) only [Act.put, List.getElem_toArray, List.getElem_cons_succ, List.getElem_cons_zero, List.setIfInBounds_toArray, List.set_cons_zero, List.set_cons_succ])
  refine Ls.call rfl (by kernel_rfl) (by kernel_rfl) (fun _ => (f_o seed d xl As Ax ns cs nx cx mF v14 hd (hs.bel hK14) hns (by omega) hbs (hx.bel hK14) hnx (by omega) hbx (hS.below hK14 (Nat.le_refl _)) hmF).mono ?_)
  rintro e v15 ⟨A15, c15, rfl, hF15, hh15, hb15⟩
  have hK15 := bnx hK14 hb15 hK14.size
  have hcp_15 := cell_bel hcp_14 hb15 hlp_14
  have hlp_15 := Nat.lt_of_lt_of_le hlp_14 hb15.size
  have hcq_15 := cell_bel hcq_14 hb15 hlq_14
  have hlq_15 := Nat.lt_of_lt_of_le hlq_14 hb15.size
  have hcs_15 := cell_bel hcs_14 hb15 hls_14
  have hls_15 := Nat.lt_of_lt_of_le hls_14 hb15.size
  have hck_15 := cell_bel hck_14 hb15 hlk_14
  have hlk_15 := Nat.lt_of_lt_of_le hlk_14 hb15.size
  have hcx_15 := cell_bel hcx_14 hb15 hlx_14
  have hlx_15 := Nat.lt_of_lt_of_le hlx_14 hb15.size
  have hcy_15 := cell_bel hcy_14 hb15 hly_14
  have hly_15 := Nat.lt_of_lt_of_le hly_14 hb15.size
  have hcd_15 := hcd_14.below hb15 hld_14
  have hld_15 := Nat.lt_of_lt_of_le hld_14 hb15.size
  refine ⟨_, rfl, ⟨hcd_15, hcs_15, hck_15, hcx_15, hcy_15⟩, ?_⟩
  (try simp (config := {maxSteps := 2000000}) only [Act.put, List.getElem_toArray, List.getElem_cons_succ, List.getElem_cons_zero, List.setIfInBounds_toArray, List.set_cons_zero, List.set_cons_succ])
  have hRX := hF15
  have hBX_15 := Below.refl v15.heap.size v15
  clear hK14 hcp_14 hlp_14 hcq_14 hlq_14 hcs_14 hls_14 hck_14 hlk_14 hcx_14 hlx_14 hcy_14 hly_14 hcd_14 hld_14 hb15 hh15 hF15
  refine Ls.call rfl (by kernel_rfl) (by kernel_rfl) (fun _ => (rf_o seed d xl As Ax ns cs nx cx mF v15 hd (hs.bel hK15) hns (by omega) hbs (hx.bel hK15) hnx (by omega) hbx hmF).mono ?_)
  rintro e v16 ⟨A16, c16, rfl, hF16, hh16, hb16⟩
  have hK16 := bnx hK15 hb16 hK15.size
  have hBX_16 := bnx hBX_15 hb16 hBX_15.size
  have hcp_16 := cell_bel hcp_15 hb16 hlp_15
  have hlp_16 := Nat.lt_of_lt_of_le hlp_15 hb16.size
  have hcq_16 := cell_bel hcq_15 hb16 hlq_15
  have hlq_16 := Nat.lt_of_lt_of_le hlq_15 hb16.size
  have hcs_16 := cell_bel hcs_15 hb16 hls_15
  have hls_16 := Nat.lt_of_lt_of_le hls_15 hb16.size
  have hck_16 := cell_bel hck_15 hb16 hlk_15
  have hlk_16 := Nat.lt_of_lt_of_le hlk_15 hb16.size
  have hcx_16 := cell_bel hcx_15 hb16 hlx_15
  have hlx_16 := Nat.lt_of_lt_of_le hlx_15 hb16.size
  have hcy_16 := cell_bel hcy_15 hb16 hly_15
  have hly_16 := Nat.lt_of_lt_of_le hly_15 hb16.size
  have hcd_16 := hcd_15.below hb16 hld_15
  have hld_16 := Nat.lt_of_lt_of_le hld_15 hb16.size
  refine ⟨_, rfl, ⟨hcd_16, hcs_16, hck_16, hcx_16, hcy_16⟩, ?_⟩
  (try simp (config := {maxSteps := 2000000}) only [Act.put, List.getElem_toArray, List.getElem_cons_succ, List.getElem_cons_zero, List.setIfInBounds_toArray, List.set_cons_zero, List.set_cons_succ])
  have hRZ := hF16
  have hBZ_16 := Below.refl v16.heap.size v16
  clear hK15 hBX_15 hcp_15 hlp_15 hcq_15 hlq_15 hcs_15 hls_15 hck_15 hlk_15 hcx_15 hlx_15 hcy_15 hly_15 hcd_15 hld_15 hb16 hh16 hF16
  refine Ls.call rfl (by kernel_rfl) (by kernel_rfl) (fun _ => (same_is_b v16 A15 A16 (fO seed d xl) mF c15 c16 (hRX.bel hBX_16) (hRZ.bel hBZ_16) hmF (by omega)).mono ?_)
  rintro e v17 ⟨rfl, hb17⟩
  have hK17 := bnx hK16 hb17 hK16.size
  have hBX_17 := bnx hBX_16 hb17 hBX_16.size
  have hBZ_17 := bnx hBZ_16 hb17 hBZ_16.size
  have hcp_17 := cell_bel hcp_16 hb17 hlp_16
  have hlp_17 := Nat.lt_of_lt_of_le hlp_16 hb17.size
  have hcq_17 := cell_bel hcq_16 hb17 hlq_16
  have hlq_17 := Nat.lt_of_lt_of_le hlq_16 hb17.size
  have hcs_17 := cell_bel hcs_16 hb17 hls_16
  have hls_17 := Nat.lt_of_lt_of_le hls_16 hb17.size
  have hck_17 := cell_bel hck_16 hb17 hlk_16
  have hlk_17 := Nat.lt_of_lt_of_le hlk_16 hb17.size
  have hcx_17 := cell_bel hcx_16 hb17 hlx_16
  have hlx_17 := Nat.lt_of_lt_of_le hlx_16 hb17.size
  have hcy_17 := cell_bel hcy_16 hb17 hly_16
  have hly_17 := Nat.lt_of_lt_of_le hly_16 hb17.size
  have hcd_17 := hcd_16.below hb17 hld_16
  have hld_17 := Nat.lt_of_lt_of_le hld_16 hb17.size
  refine ⟨_, rfl, ⟨hcd_17, hcs_17, hck_17, hcx_17, hcy_17⟩, ?_⟩
  (try simp (config := {maxSteps := 2000000}) only [Act.put, List.getElem_toArray, List.getElem_cons_succ, List.getElem_cons_zero, List.setIfInBounds_toArray, List.set_cons_zero, List.set_cons_succ])
  clear hK16 hBX_16 hBZ_16 hcp_16 hlp_16 hcq_16 hlq_16 hcs_16 hls_16 hck_16 hlk_16 hcx_16 hlx_16 hcy_16 hly_16 hcd_16 hld_16 hb17
  clear hRX hRZ hBX_17 hBZ_17
  (refine Ls.val ?_ rfl (fun _ _ _ h => h) (by kernel_rfl) ?_ ?_; rotate_left 1; focus (intro w hw; go_simp; with_reducible rfl)); (try simp (config := {maxSteps := 2000000}) only [Act.put, List.getElem_toArray, List.getElem_cons_succ, List.getElem_cons_zero, List.setIfInBounds_toArray, List.set_cons_zero, List.set_cons_succ])
  (refine Ls.val ?_ rfl (fun _ _ _ h => h) (by kernel_rfl) ?_ ?_; rotate_left 1; focus (intro w hw; go_simp; with_reducible rfl)); (try simp (config := {maxSteps := 2000000}) only [Act.put, List.getElem_toArray, List.getElem_cons_succ, List.getElem_cons_zero, List.setIfInBounds_toArray, List.set_cons_zero, List.set_cons_succ])
  (refine Ls.val ?_ rfl (fun _ _ _ h => h) (by kernel_rfl) ?_ ?_; rotate_left 1; focus (intro w hw; go_simp; with_reducible rfl)); (try simp (config := {maxSteps := 2000000}) only [Act.put, List.getElem_toArray, List.getElem_cons_succ, List.getElem_cons_zero, List.setIfInBounds_toArray, List.set_cons_zero, List.set_cons_succ])
  (refine Ls.val ?_ rfl (fun _ _ _ h => h) (by kernel_rfl) ?_ ?_; rotate_left 1; focus (intro w hw; have hcell := hw.2.1; go_simp; with_reducible rfl)); (try simp (config := {maxSteps := 2000000}) only [Act.put, List.getElem_toArray, List.getElem_cons_succ, List.getElem_cons_zero, List.setIfInBounds_toArray, List.set_cons_zero, List.set_cons_succ])
  refine Ls.val (.agg d.cs) rfl (fun _ _ _ h => h) (by kernel_rfl) (fun w hw => exec_load_row w rfl (by kernel_rfl) Tryd.underlying46 rfl (by kernel_rfl) hw.1) ?_; (try simp (config := {maxSteps := 2000000}) only [Act.put, List.getElem_toArray, List.getElem_cons_succ, List.getElem_cons_zero, List.setIfInBounds_toArray, List.set_cons_zero, List.set_cons_succ])
  (refine Ls.val ?_ rfl (fun _ _ _ h => h) (by kernel_rfl) ?_ ?_; rotate_left 1; focus (intro w hw; go_simp; with_reducible rfl)); (try simp (config := {maxSteps := 2000000}) only [Act.put, List.getElem_toArray, List.getElem_cons_succ, List.getElem_cons_zero, List.setIfInBounds_toArray, List.set_cons_zero, List.set_cons_succ])
  (refine Ls.val ?_ rfl (fun _ _ _ h => h) (by kernel_rfl) ?_ ?_; rotate_left 1; focus (intro w hw; have hcell := hw.2.2.2.1; go_simp; with_reducible rfl)); (try simp (config := {maxSteps := 2000000}) only [Act.put, List.getElem_toArray, List.getElem_cons_succ, List.getElem_cons_zero, List.setIfInBounds_toArray, List.set_cons_zero, List.set_cons_succ])
  (refine Ls.val ?_ rfl (fun _ _ _ h => h) (by kernel_rfl) ?_ ?_; rotate_left 1; focus (intro w hw; go_simp; with_reducible rfl)); (try simp (config := {maxSteps := 2000000}) only [Act.put, List.getElem_toArray, List.getElem_cons_succ, List.getElem_cons_zero, List.setIfInBounds_toArray, List.set_cons_zero, List.set_cons_succ])
  (refine Ls.val ?_ rfl (fun _ _ _ h => h) (by kernel_rfl) ?_ ?_; rotate_left 1; focus (intro w hw; have hcell := hw.2.2.2.2; go_simp; with_reducible rfl)); (try simp (config := {maxSteps := 2000000}) only [Act.put, List.getElem_toArray, List.getElem_cons_succ, List.getElem_cons_zero, List.setIfInBounds_toArray, List.set_cons_zero, List.set_cons_succ])
  (refine Ls.val ?_ rfl (fun _ _ _ h => h) (by kernel_rfl) ?_ ?_; rotate_left 1; focus (intro w hw; go_simp; with_reducible rfl)); (try simp (config := {maxSteps := 2000000}) only [Act.put, List.getElem_toArray, List.getElem_cons_succ, List.getElem_cons_zero, List.setIfInBounds_toArray, List.set_cons_zero, List.set_cons_succ])
  (refine Ls.val ?_ rfl (fun _ _ _ h => h) (by kernel_rfl) ?_ ?_; rotate_left 1; focus (intro w hw; have hcell := hw.2.1; go_simp; with_reducible rfl)); (try simp (config := {maxSteps := 2000000}) only [Act.put, List.getElem_toArray, List.getElem_cons_succ, List.getElem_cons_zero, List.setIfInBounds_toArray, List.set_cons_zero, List.set_cons_succ])
  refine Ls.val (.agg d.cs) rfl (fun _ _ _ h => h) (by kernel_rfl) (fun w hw => exec_load_row w rfl (by kernel_rfl) Tryd.underlying46 rfl (by kernel_rfl) hw.1) ?_; (try simp (config := {maxSteps := 2000000}) only [Act.put, List.getElem_toArray, List.getElem_cons_succ, List.getElem_cons_zero, List.setIfInBounds_toArray, List.set_cons_zero, List.set_cons_succ])
  (refine Ls.val ?_ rfl (fun _ _ _ h => h) (by kernel_rfl) ?_ ?_; rotate_left 1; focus (intro w hw; go_simp; with_reducible rfl)); (try simp (config := {maxSteps := 2000000}) only [Act.put, List.getElem_toArray, List.getElem_cons_succ, List.getElem_cons_zero, List.setIfInBounds_toArray, List.set_cons_zero, List.set_cons_succ])
  (refine Ls.val ?_ rfl (fun _ _ _ h => h) (by kernel_rfl) ?_ ?_; rotate_left 1; focus (intro w hw; have hcell := hw.2.2.2.1; go_simp; with_reducible rfl)); (try simp (config := {maxSteps := 2000000}) only [Act.put, List.getElem_toArray, List.getElem_cons_succ, List.getElem_cons_zero, List.setIfInBounds_toArray, List.set_cons_zero, List.set_cons_succ])
  (refine Ls.val ?_ rfl (fun _ _ _ h => h) (by kernel_rfl) ?_ ?_; rotate_left 1; focus (intro w hw; go_simp; with_reducible rfl)); (try simp (config := {maxSteps := 2000000}) only [Act.put, List.getElem_toArray, List.getElem_cons_succ, List.getElem_cons_zero, List.setIfInBounds_toArray, List.set_cons_zero, List.set_cons_succ])
  (refine Ls.val ?_ rfl (fun _ _ _ h => h) (by kernel_rfl) ?_ ?_; rotate_left 1; focus (intro w hw; have hcell := hw.2.2.2.2; go_simp; with_reducible rfl)); (try simp (config := {maxSteps := 2000000}) only [Act.put, List.getElem_toArray, List.getElem_cons_succ, List.getElem_cons_zero, List.setIfInBounds_toArray, List.set_cons_zero, List.set_cons_succ])
  refine Ls.call rfl (by kernel_rfl) (by kernel_rfl) (fun _ => (h_o seed d xl yl As Ax Ay ns cs nx cx ny cy mH v17 hd (hs.bel hK17) hns (by omega) hbs (hx.bel hK17) hnx (by omega) hbx (hy.bel hK17) hny (by omega) hby (hS.below hK17 (Nat.le_refl _)) hmH).mono ?_)
  rintro e v18 ⟨A18, c18, rfl, hF18, hh18, hb18⟩
  have hK18 := bnx hK17 hb18 hK17.size
  have hcp_18 := cell_bel hcp_17 hb18 hlp_17
  have hlp_18 := Nat.lt_of_lt_of_le hlp_17 hb18.size
  have hcq_18 := cell_bel hcq_17 hb18 hlq_17
  have hlq_18 := Nat.lt_of_lt_of_le hlq_17 hb18.size
  have hcs_18 := cell_bel hcs_17 hb18 hls_17
  have hls_18 := Nat.lt_of_lt_of_le hls_17 hb18.size
  have hck_18 := cell_bel hck_17 hb18 hlk_17
  have hlk_18 := Nat.lt_of_lt_of_le hlk_17 hb18.size
  have hcx_18 := cell_bel hcx_17 hb18 hlx_17
  have hlx_18 := Nat.lt_of_lt_of_le hlx_17 hb18.size
  have hcy_18 := cell_bel hcy_17 hb18 hly_17
  have hly_18 := Nat.lt_of_lt_of_le hly_17 hb18.size
  have hcd_18 := hcd_17.below hb18 hld_17
  have hld_18 := Nat.lt_of_lt_of_le hld_17 hb18.size
  refine ⟨_, rfl, ⟨hcd_18, hcs_18, hck_18, hcx_18, hcy_18⟩, ?_⟩
  (try simp (config := {maxSteps := 2000000}) only [Act.put, List.getElem_toArray, List.getElem_cons_succ, List.getElem_cons_zero, List.setIfInBounds_toArray, List.set_cons_zero, List.set_cons_succ])
  have hRX := hF18
  have hBX_18 := Below.refl v18.heap.size v18
  clear hK17 hcp_17 hlp_17 hcq_17 hlq_17 hcs_17 hls_17 hck_17 hlk_17 hcx_17 hlx_17 hcy_17 hly_17 hcd_17 hld_17 hb18 hh18 hF18
  refine Ls.call rfl (by kernel_rfl) (by kernel_rfl) (fun _ => (rh_o seed d xl yl As Ax Ay ns cs nx cx ny cy mH v18 hd (hs.bel hK18) hns (by omega) hbs (hx.bel hK18) hnx (by omega) hbx (hy.bel hK18) hny (by omega) hby hmH).mono ?_)
  rintro e v19 ⟨A19, c19, rfl, hF19, hh19, hb19⟩
  have hK19 := bnx hK18 hb19 hK18.size
  have hBX_19 := bnx hBX_18 hb19 hBX_18.size
  have hcp_19 := cell_bel hcp_18 hb19 hlp_18
  have hlp_19 := Nat.lt_of_lt_of_le hlp_18 hb19.size
  have hcq_19 := cell_bel hcq_18 hb19 hlq_18
  have hlq_19 := Nat.lt_of_lt_of_le hlq_18 hb19.size
  have hcs_19 := cell_bel hcs_18 hb19 hls_18
  have hls_19 := Nat.lt_of_lt_of_le hls_18 hb19.size
  have hck_19 := cell_bel hck_18 hb19 hlk_18
  have hlk_19 := Nat.lt_of_lt_of_le hlk_18 hb19.size
  have hcx_19 := cell_bel hcx_18 hb19 hlx_18
  have hlx_19 := Nat.lt_of_lt_of_le hlx_18 hb19.size
  have hcy_19 := cell_bel hcy_18 hb19 hly_18
  have hly_19 := Nat.lt_of_lt_of_le hly_18 hb19.size
  have hcd_19 := hcd_18.below hb19 hld_18
  have hld_19 := Nat.lt_of_lt_of_le hld_18 hb19.size
  refine ⟨_, rfl, ⟨hcd_19, hcs_19, hck_19, hcx_19, hcy_19⟩, ?_⟩
  (try simp (config := {maxSteps := 2000000}) only [Act.put, List.getElem_toArray, List.getElem_cons_succ, List.getElem_cons_zero, List.setIfInBounds_toArray, List.set_cons_zero, List.set_cons_succ])
  have hRZ := hF19
  have hBZ_19 := Below.refl v19.heap.size v19
  clear hK18 hBX_18 hcp_18 hlp_18 hcq_18 hlq_18 hcs_18 hls_18 hck_18 hlk_18 hcx_18 hlx_18 hcy_18 hly_18 hcd_18 hld_18 hb19 hh19 hF19
  refine Ls.call rfl (by kernel_rfl) (by kernel_rfl) (fun _ => (same_is_b v19 A18 A19 (hO seed d xl yl) mH c18 c19 (hRX.bel hBX_19) (hRZ.bel hBZ_19) hmH (by omega)).mono ?_)
  rintro e v20 ⟨rfl, hb20⟩
  have hK20 := bnx hK19 hb20 hK19.size
  have hBX_20 := bnx hBX_19 hb20 hBX_19.size
  have hBZ_20 := bnx hBZ_19 hb20 hBZ_19.size
  have hcp_20 := cell_bel hcp_19 hb20 hlp_19
  have hlp_20 := Nat.lt_of_lt_of_le hlp_19 hb20.size
  have hcq_20 := cell_bel hcq_19 hb20 hlq_19
  have hlq_20 := Nat.lt_of_lt_of_le hlq_19 hb20.size
  have hcs_20 := cell_bel hcs_19 hb20 hls_19
  have hls_20 := Nat.lt_of_lt_of_le hls_19 hb20.size
  have hck_20 := cell_bel hck_19 hb20 hlk_19
  have hlk_20 := Nat.lt_of_lt_of_le hlk_19 hb20.size
  have hcx_20 := cell_bel hcx_19 hb20 hlx_19
  have hlx_20 := Nat.lt_of_lt_of_le hlx_19 hb20.size
  have hcy_20 := cell_bel hcy_19 hb20 hly_19
  have hly_20 := Nat.lt_of_lt_of_le hly_19 hb20.size
  have hcd_20 := hcd_19.below hb20 hld_19
  have hld_20 := Nat.lt_of_lt_of_le hld_19 hb20.size
  refine ⟨_, rfl, ⟨hcd_20, hcs_20, hck_20, hcx_20, hcy_20⟩, ?_⟩
  (try simp (config := {maxSteps := 2000000}) only [Act.put, List.getElem_toArray, List.getElem_cons_succ, List.getElem_cons_zero, List.setIfInBounds_toArray, List.set_cons_zero, List.set_cons_succ])
  clear hK19 hBX_19 hBZ_19 hcp_19 hlp_19 hcq_19 hlq_19 hcs_19 hls_19 hck_19 hlk_19 hcx_19 hlx_19 hcy_19 hly_19 hcd_19 hld_19 hb20
  clear hRX hRZ hBX_20 hBZ_20
  (refine Ls.val ?_ rfl (fun _ _ _ h => h) (by kernel_rfl) ?_ ?_; rotate_left 1; focus (intro w hw; go_simp; with_reducible rfl)); (try simp (config := {maxSteps := 2000000}) only [Act.put, List.getElem_toArray, List.getElem_cons_succ, List.getElem_cons_zero, List.setIfInBounds_toArray, List.set_cons_zero, List.set_cons_succ])
  (refine Ls.val ?_ rfl (fun _ _ _ h => h) (by kernel_rfl) ?_ ?_; rotate_left 1; focus (intro w hw; go_simp; with_reducible rfl)); (try simp (config := {maxSteps := 2000000}) only [Act.put, List.getElem_toArray, List.getElem_cons_succ, List.getElem_cons_zero, List.setIfInBounds_toArray, List.set_cons_zero, List.set_cons_succ])
  (refine Ls.val ?_ rfl (fun _ _ _ h => h) (by kernel_rfl) ?_ ?_; rotate_left 1; focus (intro w hw; go_simp; with_reducible rfl)); (try simp (config := {maxSteps := 2000000}) only [Act.put, List.getElem_toArray, List.getElem_cons_succ, List.getElem_cons_zero, List.setIfInBounds_toArray, List.set_cons_zero, List.set_cons_succ])
  (refine Ls.val ?_ rfl (fun _ _ _ h => h) (by kernel_rfl) ?_ ?_; rotate_left 1; focus (intro w hw; go_simp; with_reducible rfl)); (try simp (config := {maxSteps := 2000000}) only [Act.put, List.getElem_toArray, List.getElem_cons_succ, List.getElem_cons_zero, List.setIfInBounds_toArray, List.set_cons_zero, List.set_cons_succ])
  (refine Ls.val ?_ rfl (fun _ _ _ h => h) (by kernel_rfl) ?_ ?_; rotate_left 1; focus (intro w hw; have hcell := hw.2.1; go_simp; with_reducible rfl)); (try simp (config := {maxSteps := 2000000}) only [Act.put, List.getElem_toArray, List.getElem_cons_succ, List.getElem_cons_zero, List.setIfInBounds_toArray, List.set_cons_zero, List.set_cons_succ])
  refine Ls.val (.agg d.cs) rfl (fun _ _ _ h => h) (by kernel_rfl) (fun w hw => exec_load_row w rfl (by kernel_rfl) Tryd.underlying46 rfl (by kernel_rfl) hw.1) ?_; (try simp (config := {maxSteps := 2000000}) only [Act.put, List.getElem_toArray, List.getElem_cons_succ, List.getElem_cons_zero, List.setIfInBounds_toArray, List.set_cons_zero, List.set_cons_succ])
  (refine Ls.val ?_ rfl (fun _ _ _ h => h) (by kernel_rfl) ?_ ?_; rotate_left 1; focus (intro w hw; go_simp; with_reducible rfl)); (try simp (config := {maxSteps := 2000000}) only [Act.put, List.getElem_toArray, List.getElem_cons_succ, List.getElem_cons_zero, List.setIfInBounds_toArray, List.set_cons_zero, List.set_cons_succ])
  (refine Ls.val ?_ rfl (fun _ _ _ h => h) (by kernel_rfl) ?_ ?_; rotate_left 1; focus (intro w hw; have hcell := hw.2.2.2.1; go_simp; with_reducible rfl)); (try simp (config := {maxSteps := 2000000}) only [Act.put, List.getElem_toArray, List.getElem_cons_succ, List.getElem_cons_zero, List.setIfInBounds_toArray, List.set_cons_zero, List.set_cons_succ])
  (refine Ls.val ?_ rfl (fun _ _ _ h => h) (by kernel_rfl) ?_ ?_; rotate_left 1; focus (intro w hw; go_simp; with_reducible rfl)); (try simp (config := {maxSteps := 2000000}) only [Act.put, List.getElem_toArray, List.getElem_cons_succ, List.getElem_cons_zero, List.setIfInBounds_toArray, List.set_cons_zero, List.set_cons_succ])
  (refine Ls.val ?_ rfl (fun _ _ _ h => h) (by kernel_rfl) ?_ ?_; rotate_left 1; focus (intro w hw; go_simp; with_reducible rfl)); (try simp (config := {maxSteps := 2000000}) only [Act.put, List.getElem_toArray, List.getElem_cons_succ, List.getElem_cons_zero, List.setIfInBounds_toArray, List.set_cons_zero, List.set_cons_succ])
  (refine Ls.val ?_ rfl (fun _ _ _ h => h) (by kernel_rfl) ?_ ?_; rotate_left 1; focus (intro w hw; have hcell := hw.2.1; go_simp; with_reducible rfl)); (try simp (config := {maxSteps := 2000000}) only [Act.put, List.getElem_toArray, List.getElem_cons_succ, List.getElem_cons_zero, List.setIfInBounds_toArray, List.set_cons_zero, List.set_cons_succ])
  refine Ls.val (.agg d.cs) rfl (fun _ _ _ h => h) (by kernel_rfl) (fun w hw => exec_load_row w rfl (by kernel_rfl) Tryd.underlying46 rfl (by kernel_rfl) hw.1) ?_; (try simp (config := {maxSteps := 2000000}) only [Act.put, List.getElem_toArray, List.getElem_cons_succ, List.getElem_cons_zero, List.setIfInBounds_toArray, List.set_cons_zero, List.set_cons_succ])
  (refine Ls.val ?_ rfl (fun _ _ _ h => h) (by kernel_rfl) ?_ ?_; rotate_left 1; focus (intro w hw; go_simp; with_reducible rfl)); (try simp (config := {maxSteps := 2000000}) only [Act.put, List.getElem_toArray, List.getElem_cons_succ, List.getElem_cons_zero, List.setIfInBounds_toArray, List.set_cons_zero, List.set_cons_succ])
  (refine Ls.val ?_ rfl (fun _ _ _ h => h) (by kernel_rfl) ?_ ?_; rotate_left 1; focus (intro w hw; have hcell := hw.2.2.2.1; go_simp; with_reducible rfl)); (try simp (config := {maxSteps := 2000000}) only [Act.put, List.getElem_toArray, List.getElem_cons_succ, List.getElem_cons_zero, List.setIfInBounds_toArray, List.set_cons_zero, List.set_cons_succ])
  refine Ls.call rfl (by kernel_rfl) (by kernel_rfl) (fun _ => (tw_o q seed d xl As Ax ns cs nx cx mT v20 hd (hs.bel hK20) hns (by omega) hbs (hx.bel hK20) hnx (by omega) hbx (by omega) (hKT.bel hK20) hmT).mono ?_)
  rintro e v21 ⟨A21, c21, rfl, hF21, hh21, hb21⟩
  have hK21 := bnx hK20 hb21 hK20.size
  have hcp_21 := cell_bel hcp_20 hb21 hlp_20
  have hlp_21 := Nat.lt_of_lt_of_le hlp_20 hb21.size
  have hcq_21 := cell_bel hcq_20 hb21 hlq_20
  have hlq_21 := Nat.lt_of_lt_of_le hlq_20 hb21.size
  have hcs_21 := cell_bel hcs_20 hb21 hls_20
  have hls_21 := Nat.lt_of_lt_of_le hls_20 hb21.size
  have hck_21 := cell_bel hck_20 hb21 hlk_20
  have hlk_21 := Nat.lt_of_lt_of_le hlk_20 hb21.size
  have hcx_21 := cell_bel hcx_20 hb21 hlx_20
  have hlx_21 := Nat.lt_of_lt_of_le hlx_20 hb21.size
  have hcy_21 := cell_bel hcy_20 hb21 hly_20
  have hly_21 := Nat.lt_of_lt_of_le hly_20 hb21.size
  have hcd_21 := hcd_20.below hb21 hld_20
  have hld_21 := Nat.lt_of_lt_of_le hld_20 hb21.size
  refine ⟨_, rfl, ⟨hcd_21, hcs_21, hck_21, hcx_21, hcy_21⟩, ?_⟩
  (try simp (config := {maxSteps := 2000000}) only [Act.put, List.getElem_toArray, List.getElem_cons_succ, List.getElem_cons_zero, List.setIfInBounds_toArray, List.set_cons_zero, List.set_cons_succ])
  have hRX := hF21
  have hBX_21 := Below.refl v21.heap.size v21
  clear hK20 hcp_20 hlp_20 hcq_20 hlq_20 hcs_20 hls_20 hck_20 hlk_20 hcx_20 hlx_20 hcy_20 hly_20 hcd_20 hld_20 hb21 hh21 hF21
  refine Ls.call rfl (by kernel_rfl) (by kernel_rfl) (fun _ => (rtw_o q seed d xl As Ax ns cs nx cx mT v21 hd (hs.bel hK21) hns (by omega) hbs (hx.bel hK21) hnx (by omega) hbx (by omega) hmT).mono ?_)
  rintro e v22 ⟨A22, c22, rfl, hF22, hh22, hb22⟩
  have hK22 := bnx hK21 hb22 hK21.size
  have hBX_22 := bnx hBX_21 hb22 hBX_21.size
  have hcp_22 := cell_bel hcp_21 hb22 hlp_21
  have hlp_22 := Nat.lt_of_lt_of_le hlp_21 hb22.size
  have hcq_22 := cell_bel hcq_21 hb22 hlq_21
  have hlq_22 := Nat.lt_of_lt_of_le hlq_21 hb22.size
  have hcs_22 := cell_bel hcs_21 hb22 hls_21
  have hls_22 := Nat.lt_of_lt_of_le hls_21 hb22.size
  have hck_22 := cell_bel hck_21 hb22 hlk_21
  have hlk_22 := Nat.lt_of_lt_of_le hlk_21 hb22.size
  have hcx_22 := cell_bel hcx_21 hb22 hlx_21
  have hlx_22 := Nat.lt_of_lt_of_le hlx_21 hb22.size
  have hcy_22 := cell_bel hcy_21 hb22 hly_21
  have hly_22 := Nat.lt_of_lt_of_le hly_21 hb22.size
  have hcd_22 := hcd_21.below hb22 hld_21
  have hld_22 := Nat.lt_of_lt_of_le hld_21 hb22.size
  refine ⟨_, rfl, ⟨hcd_22, hcs_22, hck_22, hcx_22, hcy_22⟩, ?_⟩
  (try simp (config := {maxSteps := 2000000}) only [Act.put, List.getElem_toArray, List.getElem_cons_succ, List.getElem_cons_zero, List.setIfInBounds_toArray, List.set_cons_zero, List.set_cons_succ])
  have hRZ := hF22
  have hBZ_22 := Below.refl v22.heap.size v22
  clear hK21 hBX_21 hcp_21 hlp_21 hcq_21 hlq_21 hcs_21 hls_21 hck_21 hlk_21 hcx_21 hlx_21 hcy_21 hly_21 hcd_21 hld_21 hb22 hh22 hF22
  refine Ls.call rfl (by kernel_rfl) (by kernel_rfl) (fun _ => (same_is_b v22 A21 A22 (twO q seed d xl) mT c21 c22 (hRX.bel hBX_22) (hRZ.bel hBZ_22) hmT (by omega)).mono ?_)
  rintro e v23 ⟨rfl, hb23⟩
  have hK23 := bnx hK22 hb23 hK22.size
  have hBX_23 := bnx hBX_22 hb23 hBX_22.size
  have hBZ_23 := bnx hBZ_22 hb23 hBZ_22.size
  have hcp_23 := cell_bel hcp_22 hb23 hlp_22
  have hlp_23 := Nat.lt_of_lt_of_le hlp_22 hb23.size
  have hcq_23 := cell_bel hcq_22 hb23 hlq_22
  have hlq_23 := Nat.lt_of_lt_of_le hlq_22 hb23.size
  have hcs_23 := cell_bel hcs_22 hb23 hls_22
  have hls_23 := Nat.lt_of_lt_of_le hls_22 hb23.size
  have hck_23 := cell_bel hck_22 hb23 hlk_22
  have hlk_23 := Nat.lt_of_lt_of_le hlk_22 hb23.size
  have hcx_23 := cell_bel hcx_22 hb23 hlx_22
  have hlx_23 := Nat.lt_of_lt_of_le hlx_22 hb23.size
  have hcy_23 := cell_bel hcy_22 hb23 hly_22
  have hly_23 := Nat.lt_of_lt_of_le hly_22 hb23.size
  have hcd_23 := hcd_22.below hb23 hld_22
  have hld_23 := Nat.lt_of_lt_of_le hld_22 hb23.size
  refine ⟨_, rfl, ⟨hcd_23, hcs_23, hck_23, hcx_23, hcy_23⟩, ?_⟩
  (try simp (config := {maxSteps := 2000000}) only [Act.put, List.getElem_toArray, List.getElem_cons_succ, List.getElem_cons_zero, List.setIfInBounds_toArray, List.set_cons_zero, List.set_cons_succ])
  clear hK22 hBX_22 hBZ_22 hcp_22 hlp_22 hcq_22 hlq_22 hcs_22 hls_22 hck_22 hlk_22 hcx_22 hlx_22 hcy_22 hly_22 hcd_22 hld_22 hb23
  clear hRX hRZ hBX_23 hBZ_23
  (refine Ls.val ?_ rfl (fun _ _ _ h => h) (by kernel_rfl) ?_ ?_; rotate_left 1; focus (intro w hw; go_simp; with_reducible rfl)); (try simp (config := {maxSteps := 2000000}) only [Act.put, List.getElem_toArray, List.getElem_cons_succ, List.getElem_cons_zero, List.setIfInBounds_toArray, List.set_cons_zero, List.set_cons_succ])
  (refine Ls.val ?_ rfl (fun _ _ _ h => h) (by kernel_rfl) ?_ ?_; rotate_left 1; focus (intro w hw; go_simp; with_reducible rfl)); (try simp (config := {maxSteps := 2000000}) only [Act.put, List.getElem_toArray, List.getElem_cons_succ, List.getElem_cons_zero, List.setIfInBounds_toArray, List.set_cons_zero, List.set_cons_succ])
  refine Ls.done ?_
  intro _
  (try simp (config := {maxSteps := 2000000}) only [Act.put, List.getElem_toArray, List.getElem_cons_succ, List.getElem_cons_zero, List.setIfInBounds_toArray, List.set_cons_zero, List.set_cons_succ])
  go_wp2_with fail
  go_ret
  exact ⟨by kernel_rfl, hK23⟩
end Go.Proofs.YtfaonieaagepjaaDoor
