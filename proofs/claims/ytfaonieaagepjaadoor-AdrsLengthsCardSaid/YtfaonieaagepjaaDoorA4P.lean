/- AdrsLengths, walked. Conditions: what is read reads as bytes; the tables. -/
import Derived.Test.YtfaonieaagepjaaDoorA4K
import Derived.Test.YtfaonieaagepjaaDoorA4L
namespace Go.Proofs.YtfaonieaagepjaaDoor
open Go.RowKit
set_option linter.unusedVariables false
set_option linter.unusedSimpArgs false
theorem fO_yes (seed : List Int) (d : Ad) (x : List Int) (h : seed.length = 32) (h' : x.length = 32) : (fO seed d x).length = 32 := by unfold fO; rw [if_pos ⟨h, h'⟩, fL_len]
theorem fO_no (seed : List Int) (d : Ad) (x : List Int) (h : ¬ (seed.length = 32 ∧ x.length = 32)) : (fO seed d x).length = 0 := by unfold fO; rw [if_neg h]; rfl
theorem hO_yes (seed : List Int) (d : Ad) (x y : List Int) (h : seed.length = 32) (h' : x.length = 32) (h2 : y.length = 32) : (hO seed d x y).length = 32 := by unfold hO; rw [if_pos ⟨h, h', h2⟩, hL_len]
theorem hO_no (seed : List Int) (d : Ad) (x y : List Int) (h : ¬ (seed.length = 32 ∧ x.length = 32 ∧ y.length = 32)) : (hO seed d x y).length = 0 := by unfold hO; rw [if_neg h]; rfl
theorem twO_yes (N : Int) (k : Nat) (seed : List Int) (d : Ad) (x : List Int) (hN : N = k) (hk : k = 16 ∨ k = 24 ∨ k = 32) (h : seed.length = k) : (twO N seed d x).length = k := by unfold twO; rw [if_pos ⟨by omega, by omega⟩, twL_len, h]
theorem twO_no (N : Int) (seed : List Int) (d : Ad) (x : List Int) (h : ¬ N = seed.length) : (twO N seed d x).length = 0 := by unfold twO; rw [if_neg fun hh => h hh.2]; rfl
set_option maxRecDepth 100000 in
set_option maxHeartbeats 8000000 in
theorem adrsLengths_walk (d : Ad) (kd : Int) (seed key xl yl : List Int) (As Ak Ax Ay : Option Addr) (cs ck cx cy : Nat) (w : World) (hd : d.ok) (hkd : B8 kd) (hs : Rd w w.heap.size .u8 As seed) (hcs : seed.length ≤ cs) (hms : cs ≤ 9223372036854775807) (hbs : Bys seed) (hk : Rd w w.heap.size .u8 Ak key) (hck : key.length ≤ ck) (hmk : ck ≤ 9223372036854775807) (hbk : Bys key) (hx : Rd w w.heap.size .u8 Ax xl) (hcx : xl.length ≤ cx) (hmx : cx ≤ 9223372036854775807) (hbx : Bys xl) (hy : Rd w w.heap.size .u8 Ay yl) (hcy : yl.length ≤ cy) (hmy : cy ≤ 9223372036854775807) (hby : Bys yl) (hS : S2Tb w) (hKT : KTab w) :
    Calls Tryd.prog 10 #[.agg d.cs, .agg #[.slice As seed.length cs, .slice Ak key.length ck, .slice Ax xl.length cx, .slice Ay yl.length cy], .int .u8 kd] w fun e w' => e = .returned (.bool true) ∧ Below w.heap.size w w' := by
  obtain ⟨ns, hns⟩ : ∃ n, seed.length = n := ⟨_, rfl⟩
  rw [hns] at hcs ⊢
  obtain ⟨nk, hnk⟩ : ∃ n, key.length = n := ⟨_, rfl⟩
  rw [hnk] at hck ⊢
  obtain ⟨nx, hnx⟩ : ∃ n, xl.length = n := ⟨_, rfl⟩
  rw [hnx] at hcx ⊢
  obtain ⟨ny, hny⟩ : ∃ n, yl.length = n := ⟨_, rfl⟩
  rw [hny] at hcy ⊢
  obtain ⟨kn, rfl⟩ : ∃ q : Nat, kd = q := ⟨kd.toNat, by have := hkd.1; omega⟩
  have hkn : kn < 256 := by have := hkd.2; omega
  clear hkd
  have hmx : (200000000 : Nat) ≤ maxLen := by decide
  have hXd := (Blk.new w 46 d.cs).alloc (.cells #[.slice As ns cs, .slice Ak nk ck, .slice Ax nx cx, .slice Ay ny cy] 49)
  have hXx := Blk.new (w.alloc (.cells d.cs 46)) 49 #[.slice As ns cs, .slice Ak nk ck, .slice Ax nx cx, .slice Ay ny cy]
  have hKx := bal (bal (Below.refl w.heap.size w) (Nat.le_refl _) (.cells d.cs 46)) (by simp) (.cells #[.slice As ns cs, .slice Ak nk ck, .slice Ax nx cx, .slice Ay ny cy] 49)
  have hz1 : (w.alloc (.cells d.cs 46)).heap.size = w.heap.size + 1 := by simp
  go_enter Tryd.func10, Tryd.ntmps10
  go_upto_region 1 with fail
  change Code.wp _ _ _ _ ((w.alloc (.cells d.cs 46)).alloc (.cells #[.slice As ns cs, .slice Ak nk ck, .slice Ax nx cx, .slice Ay ny cy] 49))
  generalize ((w.alloc (.cells d.cs 46)).alloc (.cells #[.slice As ns cs, .slice Ak nk ck, .slice Ax nx cx, .slice Ay ny cy] 49)) = w0 at hXd hXx hKx ⊢
  rw [hz1] at hXx
  clear hz1
  have hx0 := hXx.cell 0 _ rfl
  have hx2 := hXx.cell 2 _ rfl
  have hx3 := hXx.cell 3 _ rfl
  have hlx0 := hXx.lt
  have hlx2 := hlx0
  have hlx3 := hlx0
  have hld := hXd.lt
  clear hXx
  go_wp2_with fail
  (with_reducible refine (awake14_any w0 (hS.below hKx (Nat.le_refl _)) (hKT.bel hKx)).mono ?_)
  rintro e v1 ⟨rfl, hb1⟩
  have hK1 := bnx hKx hb1 hKx.size
  have hcd_1 := hXd.below hb1 hld
  have hld_1 := Nat.lt_of_lt_of_le hld hb1.size
  have hcs_1 := cell_bel hx0 hb1 hlx0
  have hls_1 := Nat.lt_of_lt_of_le hlx0 hb1.size
  have hcx_1 := cell_bel hx2 hb1 hlx2
  have hlx_1 := Nat.lt_of_lt_of_le hlx2 hb1.size
  have hcy_1 := cell_bel hx3 hb1 hlx3
  have hly_1 := Nat.lt_of_lt_of_le hlx3 hb1.size
  clear hKx hXd hld hx0 hlx0 hx2 hlx2 hx3 hlx3 hb1
  by_cases hgs : 100 < ns
  · have hgsI : (100 : Int) < (ns : Int) := by omega
    go_wp2_with fail
    go_ret
    exact ⟨rfl, hK1⟩
  have hgsI : ¬ (100 : Int) < (ns : Int) := by omega
  by_cases hgx : 100 < nx
  · have hgxI : (100 : Int) < (nx : Int) := by omega
    go_wp2_with fail
    go_ret
    exact ⟨rfl, hK1⟩
  have hgxI : ¬ (100 : Int) < (nx : Int) := by omega
  by_cases hgy : 100 < ny
  · have hgyI : (100 : Int) < (ny : Int) := by omega
    go_wp2_with fail
    go_ret
    exact ⟨rfl, hK1⟩
  have hgyI : ¬ (100 : Int) < (ny : Int) := by omega
  by_cases qs : ns = 32
  · subst qs
    by_cases qx : nx = 32
    · subst qx
      by_cases qy : ny = 32
      · subst qy
        have hk3 : kn % 3 = 0 ∨ kn % 3 = 1 ∨ kn % 3 = 2 := by omega
        rcases hk3 with hk3 | hk3 | hk3
        · have hkI : (kn : Int) % 3 = 0 := by omega
          clear hk3
          have hmF : (fO seed d xl).length = 32 := fO_yes _ _ _ hns hnx
          have hmH : (hO seed d xl yl).length = 32 := hO_yes _ _ _ _ hns hnx hny
          have hmT : (twO 16 seed d xl).length = 0 := twO_no _ _ _ _ (by omega)
          go_wp2_with (refine wpList_blk_yes (t := 46) (T := 46) (by rfl) rfl rfl Tryd.underlying46 rfl (by kernel_rfl) hcd_1 ?_)
          (with_reducible refine (f_o seed d xl As Ax 32 cs 32 cx 32 v1 hd (hs.bel hK1) hns (by omega) hbs (hx.bel hK1) hnx (by omega) hbx (hS.below hK1 (Nat.le_refl _)) hmF).mono ?_)
          rintro e v2 ⟨A2, c2, rfl, hF2, hh2, hb2⟩
          have hK2 := bnx hK1 hb2 hK1.size
          have hcd_2 := hcd_1.below hb2 hld_1
          have hld_2 := Nat.lt_of_lt_of_le hld_1 hb2.size
          have hcs_2 := cell_bel hcs_1 hb2 hls_1
          have hls_2 := Nat.lt_of_lt_of_le hls_1 hb2.size
          have hcx_2 := cell_bel hcx_1 hb2 hlx_1
          have hlx_2 := Nat.lt_of_lt_of_le hlx_1 hb2.size
          have hcy_2 := cell_bel hcy_1 hb2 hly_1
          have hly_2 := Nat.lt_of_lt_of_le hly_1 hb2.size
          clear hK1 hcd_1 hld_1 hcs_1 hls_1 hcx_1 hlx_1 hcy_1 hly_1 hb2 hF2 hh2
          go_wp2_with (refine wpList_blk_yes (t := 46) (T := 46) (by rfl) rfl rfl Tryd.underlying46 rfl (by kernel_rfl) hcd_2 ?_)
          (with_reducible refine (h_o seed d xl yl As Ax Ay 32 cs 32 cx 32 cy 32 v2 hd (hs.bel hK2) hns (by omega) hbs (hx.bel hK2) hnx (by omega) hbx (hy.bel hK2) hny (by omega) hby (hS.below hK2 (Nat.le_refl _)) hmH).mono ?_)
          rintro e v3 ⟨A3, c3, rfl, hF3, hh3, hb3⟩
          have hK3 := bnx hK2 hb3 hK2.size
          have hcd_3 := hcd_2.below hb3 hld_2
          have hld_3 := Nat.lt_of_lt_of_le hld_2 hb3.size
          have hcs_3 := cell_bel hcs_2 hb3 hls_2
          have hls_3 := Nat.lt_of_lt_of_le hls_2 hb3.size
          have hcx_3 := cell_bel hcx_2 hb3 hlx_2
          have hlx_3 := Nat.lt_of_lt_of_le hlx_2 hb3.size
          have hcy_3 := cell_bel hcy_2 hb3 hly_2
          have hly_3 := Nat.lt_of_lt_of_le hly_2 hb3.size
          clear hK2 hcd_2 hld_2 hcs_2 hls_2 hcx_2 hlx_2 hcy_2 hly_2 hb3 hF3 hh3
          go_upto_region 8 with (refine wpList_blk_yes (t := 46) (T := 46) (by rfl) rfl rfl Tryd.underlying46 rfl (by kernel_rfl) hcd_3 ?_)
          have hK4 := bal hK3 hK3.size (.cells #[.int .i64 16, .int .i64 24, .int .i64 32] 3)
          have hcd_4 := hcd_3.alloc (.cells #[.int .i64 16, .int .i64 24, .int .i64 32] 3)
          have hld_4 := Nat.lt_of_lt_of_le hld_3 (al_le v3 (.cells #[.int .i64 16, .int .i64 24, .int .i64 32] 3))
          have hcs_4 := cell_al hcs_3 hls_3 (.cells #[.int .i64 16, .int .i64 24, .int .i64 32] 3)
          have hls_4 := Nat.lt_of_lt_of_le hls_3 (al_le v3 (.cells #[.int .i64 16, .int .i64 24, .int .i64 32] 3))
          have hcx_4 := cell_al hcx_3 hlx_3 (.cells #[.int .i64 16, .int .i64 24, .int .i64 32] 3)
          have hlx_4 := Nat.lt_of_lt_of_le hlx_3 (al_le v3 (.cells #[.int .i64 16, .int .i64 24, .int .i64 32] 3))
          have hcy_4 := cell_al hcy_3 hly_3 (.cells #[.int .i64 16, .int .i64 24, .int .i64 32] 3)
          have hly_4 := Nat.lt_of_lt_of_le hly_3 (al_le v3 (.cells #[.int .i64 16, .int .i64 24, .int .i64 32] 3))
          change Code.wp _ _ _ _ (v3.alloc (.cells #[.int .i64 16, .int .i64 24, .int .i64 32] 3))
          generalize v3.alloc (.cells #[.int .i64 16, .int .i64 24, .int .i64 32] 3) = v4 at hK4 hcd_4 hld_4 hcs_4 hls_4 hcx_4 hlx_4 hcy_4 hly_4 ⊢
          clear hK3 hcd_3 hld_3 hcs_3 hls_3 hcx_3 hlx_3 hcy_3 hly_3
          go_wp2_with (refine wpList_blk_yes (t := 46) (T := 46) (by rfl) rfl rfl Tryd.underlying46 rfl (by kernel_rfl) hcd_4 ?_)
          (with_reducible refine (tw_o 16 seed d xl As Ax 32 cs 32 cx 0 v4 hd (hs.bel hK4) hns (by omega) hbs (hx.bel hK4) hnx (by omega) hbx (by omega) (hKT.bel hK4) hmT).mono ?_)
          rintro e v5 ⟨A5, c5, rfl, hF5, hh5, hb5⟩
          have hK5 := bnx hK4 hb5 hK4.size
          have hcd_5 := hcd_4.below hb5 hld_4
          have hld_5 := Nat.lt_of_lt_of_le hld_4 hb5.size
          have hcs_5 := cell_bel hcs_4 hb5 hls_4
          have hls_5 := Nat.lt_of_lt_of_le hls_4 hb5.size
          have hcx_5 := cell_bel hcx_4 hb5 hlx_4
          have hlx_5 := Nat.lt_of_lt_of_le hlx_4 hb5.size
          have hcy_5 := cell_bel hcy_4 hb5 hly_4
          have hly_5 := Nat.lt_of_lt_of_le hly_4 hb5.size
          clear hK4 hcd_4 hld_4 hcs_4 hls_4 hcx_4 hlx_4 hcy_4 hly_4 hb5 hF5 hh5
          go_wp2_with (refine wpList_blk_yes (t := 46) (T := 46) (by rfl) rfl rfl Tryd.underlying46 rfl (by kernel_rfl) hcd_5 ?_)
          go_ret
          exact ⟨rfl, hK5⟩
        · have hkI : (kn : Int) % 3 = 1 := by omega
          clear hk3
          have hmF : (fO seed d xl).length = 32 := fO_yes _ _ _ hns hnx
          have hmH : (hO seed d xl yl).length = 32 := hO_yes _ _ _ _ hns hnx hny
          have hmT : (twO 24 seed d xl).length = 0 := twO_no _ _ _ _ (by omega)
          go_wp2_with (refine wpList_blk_yes (t := 46) (T := 46) (by rfl) rfl rfl Tryd.underlying46 rfl (by kernel_rfl) hcd_1 ?_)
          (with_reducible refine (f_o seed d xl As Ax 32 cs 32 cx 32 v1 hd (hs.bel hK1) hns (by omega) hbs (hx.bel hK1) hnx (by omega) hbx (hS.below hK1 (Nat.le_refl _)) hmF).mono ?_)
          rintro e v2 ⟨A2, c2, rfl, hF2, hh2, hb2⟩
          have hK2 := bnx hK1 hb2 hK1.size
          have hcd_2 := hcd_1.below hb2 hld_1
          have hld_2 := Nat.lt_of_lt_of_le hld_1 hb2.size
          have hcs_2 := cell_bel hcs_1 hb2 hls_1
          have hls_2 := Nat.lt_of_lt_of_le hls_1 hb2.size
          have hcx_2 := cell_bel hcx_1 hb2 hlx_1
          have hlx_2 := Nat.lt_of_lt_of_le hlx_1 hb2.size
          have hcy_2 := cell_bel hcy_1 hb2 hly_1
          have hly_2 := Nat.lt_of_lt_of_le hly_1 hb2.size
          clear hK1 hcd_1 hld_1 hcs_1 hls_1 hcx_1 hlx_1 hcy_1 hly_1 hb2 hF2 hh2
          go_wp2_with (refine wpList_blk_yes (t := 46) (T := 46) (by rfl) rfl rfl Tryd.underlying46 rfl (by kernel_rfl) hcd_2 ?_)
          (with_reducible refine (h_o seed d xl yl As Ax Ay 32 cs 32 cx 32 cy 32 v2 hd (hs.bel hK2) hns (by omega) hbs (hx.bel hK2) hnx (by omega) hbx (hy.bel hK2) hny (by omega) hby (hS.below hK2 (Nat.le_refl _)) hmH).mono ?_)
          rintro e v3 ⟨A3, c3, rfl, hF3, hh3, hb3⟩
          have hK3 := bnx hK2 hb3 hK2.size
          have hcd_3 := hcd_2.below hb3 hld_2
          have hld_3 := Nat.lt_of_lt_of_le hld_2 hb3.size
          have hcs_3 := cell_bel hcs_2 hb3 hls_2
          have hls_3 := Nat.lt_of_lt_of_le hls_2 hb3.size
          have hcx_3 := cell_bel hcx_2 hb3 hlx_2
          have hlx_3 := Nat.lt_of_lt_of_le hlx_2 hb3.size
          have hcy_3 := cell_bel hcy_2 hb3 hly_2
          have hly_3 := Nat.lt_of_lt_of_le hly_2 hb3.size
          clear hK2 hcd_2 hld_2 hcs_2 hls_2 hcx_2 hlx_2 hcy_2 hly_2 hb3 hF3 hh3
          go_upto_region 8 with (refine wpList_blk_yes (t := 46) (T := 46) (by rfl) rfl rfl Tryd.underlying46 rfl (by kernel_rfl) hcd_3 ?_)
          have hK4 := bal hK3 hK3.size (.cells #[.int .i64 16, .int .i64 24, .int .i64 32] 3)
          have hcd_4 := hcd_3.alloc (.cells #[.int .i64 16, .int .i64 24, .int .i64 32] 3)
          have hld_4 := Nat.lt_of_lt_of_le hld_3 (al_le v3 (.cells #[.int .i64 16, .int .i64 24, .int .i64 32] 3))
          have hcs_4 := cell_al hcs_3 hls_3 (.cells #[.int .i64 16, .int .i64 24, .int .i64 32] 3)
          have hls_4 := Nat.lt_of_lt_of_le hls_3 (al_le v3 (.cells #[.int .i64 16, .int .i64 24, .int .i64 32] 3))
          have hcx_4 := cell_al hcx_3 hlx_3 (.cells #[.int .i64 16, .int .i64 24, .int .i64 32] 3)
          have hlx_4 := Nat.lt_of_lt_of_le hlx_3 (al_le v3 (.cells #[.int .i64 16, .int .i64 24, .int .i64 32] 3))
          have hcy_4 := cell_al hcy_3 hly_3 (.cells #[.int .i64 16, .int .i64 24, .int .i64 32] 3)
          have hly_4 := Nat.lt_of_lt_of_le hly_3 (al_le v3 (.cells #[.int .i64 16, .int .i64 24, .int .i64 32] 3))
          change Code.wp _ _ _ _ (v3.alloc (.cells #[.int .i64 16, .int .i64 24, .int .i64 32] 3))
          generalize v3.alloc (.cells #[.int .i64 16, .int .i64 24, .int .i64 32] 3) = v4 at hK4 hcd_4 hld_4 hcs_4 hls_4 hcx_4 hlx_4 hcy_4 hly_4 ⊢
          clear hK3 hcd_3 hld_3 hcs_3 hls_3 hcx_3 hlx_3 hcy_3 hly_3
          go_wp2_with (refine wpList_blk_yes (t := 46) (T := 46) (by rfl) rfl rfl Tryd.underlying46 rfl (by kernel_rfl) hcd_4 ?_)
          (with_reducible refine (tw_o 24 seed d xl As Ax 32 cs 32 cx 0 v4 hd (hs.bel hK4) hns (by omega) hbs (hx.bel hK4) hnx (by omega) hbx (by omega) (hKT.bel hK4) hmT).mono ?_)
          rintro e v5 ⟨A5, c5, rfl, hF5, hh5, hb5⟩
          have hK5 := bnx hK4 hb5 hK4.size
          have hcd_5 := hcd_4.below hb5 hld_4
          have hld_5 := Nat.lt_of_lt_of_le hld_4 hb5.size
          have hcs_5 := cell_bel hcs_4 hb5 hls_4
          have hls_5 := Nat.lt_of_lt_of_le hls_4 hb5.size
          have hcx_5 := cell_bel hcx_4 hb5 hlx_4
          have hlx_5 := Nat.lt_of_lt_of_le hlx_4 hb5.size
          have hcy_5 := cell_bel hcy_4 hb5 hly_4
          have hly_5 := Nat.lt_of_lt_of_le hly_4 hb5.size
          clear hK4 hcd_4 hld_4 hcs_4 hls_4 hcx_4 hlx_4 hcy_4 hly_4 hb5 hF5 hh5
          go_wp2_with (refine wpList_blk_yes (t := 46) (T := 46) (by rfl) rfl rfl Tryd.underlying46 rfl (by kernel_rfl) hcd_5 ?_)
          go_ret
          exact ⟨rfl, hK5⟩
        · have hkI : (kn : Int) % 3 = 2 := by omega
          clear hk3
          have hmF : (fO seed d xl).length = 32 := fO_yes _ _ _ hns hnx
          have hmH : (hO seed d xl yl).length = 32 := hO_yes _ _ _ _ hns hnx hny
          have hmT : (twO 32 seed d xl).length = 32 := twO_yes _ 32 _ _ _ rfl (by decide) hns
          go_wp2_with (refine wpList_blk_yes (t := 46) (T := 46) (by rfl) rfl rfl Tryd.underlying46 rfl (by kernel_rfl) hcd_1 ?_)
          (with_reducible refine (f_o seed d xl As Ax 32 cs 32 cx 32 v1 hd (hs.bel hK1) hns (by omega) hbs (hx.bel hK1) hnx (by omega) hbx (hS.below hK1 (Nat.le_refl _)) hmF).mono ?_)
          rintro e v2 ⟨A2, c2, rfl, hF2, hh2, hb2⟩
          have hK2 := bnx hK1 hb2 hK1.size
          have hcd_2 := hcd_1.below hb2 hld_1
          have hld_2 := Nat.lt_of_lt_of_le hld_1 hb2.size
          have hcs_2 := cell_bel hcs_1 hb2 hls_1
          have hls_2 := Nat.lt_of_lt_of_le hls_1 hb2.size
          have hcx_2 := cell_bel hcx_1 hb2 hlx_1
          have hlx_2 := Nat.lt_of_lt_of_le hlx_1 hb2.size
          have hcy_2 := cell_bel hcy_1 hb2 hly_1
          have hly_2 := Nat.lt_of_lt_of_le hly_1 hb2.size
          clear hK1 hcd_1 hld_1 hcs_1 hls_1 hcx_1 hlx_1 hcy_1 hly_1 hb2 hF2 hh2
          go_wp2_with (refine wpList_blk_yes (t := 46) (T := 46) (by rfl) rfl rfl Tryd.underlying46 rfl (by kernel_rfl) hcd_2 ?_)
          (with_reducible refine (h_o seed d xl yl As Ax Ay 32 cs 32 cx 32 cy 32 v2 hd (hs.bel hK2) hns (by omega) hbs (hx.bel hK2) hnx (by omega) hbx (hy.bel hK2) hny (by omega) hby (hS.below hK2 (Nat.le_refl _)) hmH).mono ?_)
          rintro e v3 ⟨A3, c3, rfl, hF3, hh3, hb3⟩
          have hK3 := bnx hK2 hb3 hK2.size
          have hcd_3 := hcd_2.below hb3 hld_2
          have hld_3 := Nat.lt_of_lt_of_le hld_2 hb3.size
          have hcs_3 := cell_bel hcs_2 hb3 hls_2
          have hls_3 := Nat.lt_of_lt_of_le hls_2 hb3.size
          have hcx_3 := cell_bel hcx_2 hb3 hlx_2
          have hlx_3 := Nat.lt_of_lt_of_le hlx_2 hb3.size
          have hcy_3 := cell_bel hcy_2 hb3 hly_2
          have hly_3 := Nat.lt_of_lt_of_le hly_2 hb3.size
          clear hK2 hcd_2 hld_2 hcs_2 hls_2 hcx_2 hlx_2 hcy_2 hly_2 hb3 hF3 hh3
          go_upto_region 8 with (refine wpList_blk_yes (t := 46) (T := 46) (by rfl) rfl rfl Tryd.underlying46 rfl (by kernel_rfl) hcd_3 ?_)
          have hK4 := bal hK3 hK3.size (.cells #[.int .i64 16, .int .i64 24, .int .i64 32] 3)
          have hcd_4 := hcd_3.alloc (.cells #[.int .i64 16, .int .i64 24, .int .i64 32] 3)
          have hld_4 := Nat.lt_of_lt_of_le hld_3 (al_le v3 (.cells #[.int .i64 16, .int .i64 24, .int .i64 32] 3))
          have hcs_4 := cell_al hcs_3 hls_3 (.cells #[.int .i64 16, .int .i64 24, .int .i64 32] 3)
          have hls_4 := Nat.lt_of_lt_of_le hls_3 (al_le v3 (.cells #[.int .i64 16, .int .i64 24, .int .i64 32] 3))
          have hcx_4 := cell_al hcx_3 hlx_3 (.cells #[.int .i64 16, .int .i64 24, .int .i64 32] 3)
          have hlx_4 := Nat.lt_of_lt_of_le hlx_3 (al_le v3 (.cells #[.int .i64 16, .int .i64 24, .int .i64 32] 3))
          have hcy_4 := cell_al hcy_3 hly_3 (.cells #[.int .i64 16, .int .i64 24, .int .i64 32] 3)
          have hly_4 := Nat.lt_of_lt_of_le hly_3 (al_le v3 (.cells #[.int .i64 16, .int .i64 24, .int .i64 32] 3))
          change Code.wp _ _ _ _ (v3.alloc (.cells #[.int .i64 16, .int .i64 24, .int .i64 32] 3))
          generalize v3.alloc (.cells #[.int .i64 16, .int .i64 24, .int .i64 32] 3) = v4 at hK4 hcd_4 hld_4 hcs_4 hls_4 hcx_4 hlx_4 hcy_4 hly_4 ⊢
          clear hK3 hcd_3 hld_3 hcs_3 hls_3 hcx_3 hlx_3 hcy_3 hly_3
          go_wp2_with (refine wpList_blk_yes (t := 46) (T := 46) (by rfl) rfl rfl Tryd.underlying46 rfl (by kernel_rfl) hcd_4 ?_)
          (with_reducible refine (tw_o 32 seed d xl As Ax 32 cs 32 cx 32 v4 hd (hs.bel hK4) hns (by omega) hbs (hx.bel hK4) hnx (by omega) hbx (by omega) (hKT.bel hK4) hmT).mono ?_)
          rintro e v5 ⟨A5, c5, rfl, hF5, hh5, hb5⟩
          have hK5 := bnx hK4 hb5 hK4.size
          have hcd_5 := hcd_4.below hb5 hld_4
          have hld_5 := Nat.lt_of_lt_of_le hld_4 hb5.size
          have hcs_5 := cell_bel hcs_4 hb5 hls_4
          have hls_5 := Nat.lt_of_lt_of_le hls_4 hb5.size
          have hcx_5 := cell_bel hcx_4 hb5 hlx_4
          have hlx_5 := Nat.lt_of_lt_of_le hlx_4 hb5.size
          have hcy_5 := cell_bel hcy_4 hb5 hly_4
          have hly_5 := Nat.lt_of_lt_of_le hly_4 hb5.size
          clear hK4 hcd_4 hld_4 hcs_4 hls_4 hcx_4 hlx_4 hcy_4 hly_4 hb5 hF5 hh5
          go_wp2_with (refine wpList_blk_yes (t := 46) (T := 46) (by rfl) rfl rfl Tryd.underlying46 rfl (by kernel_rfl) hcd_5 ?_)
          go_ret
          exact ⟨rfl, hK5⟩
      · have ey32 : ((ny : Int) == 32) = false := by simp; omega
        have hk3 : kn % 3 = 0 ∨ kn % 3 = 1 ∨ kn % 3 = 2 := by omega
        rcases hk3 with hk3 | hk3 | hk3
        · have hkI : (kn : Int) % 3 = 0 := by omega
          clear hk3
          have hmF : (fO seed d xl).length = 32 := fO_yes _ _ _ hns hnx
          have hmH : (hO seed d xl yl).length = 0 := hO_no _ _ _ _ (by omega)
          have hmT : (twO 16 seed d xl).length = 0 := twO_no _ _ _ _ (by omega)
          go_wp2_with (refine wpList_blk_yes (t := 46) (T := 46) (by rfl) rfl rfl Tryd.underlying46 rfl (by kernel_rfl) hcd_1 ?_)
          (with_reducible refine (f_o seed d xl As Ax 32 cs 32 cx 32 v1 hd (hs.bel hK1) hns (by omega) hbs (hx.bel hK1) hnx (by omega) hbx (hS.below hK1 (Nat.le_refl _)) hmF).mono ?_)
          rintro e v2 ⟨A2, c2, rfl, hF2, hh2, hb2⟩
          have hK2 := bnx hK1 hb2 hK1.size
          have hcd_2 := hcd_1.below hb2 hld_1
          have hld_2 := Nat.lt_of_lt_of_le hld_1 hb2.size
          have hcs_2 := cell_bel hcs_1 hb2 hls_1
          have hls_2 := Nat.lt_of_lt_of_le hls_1 hb2.size
          have hcx_2 := cell_bel hcx_1 hb2 hlx_1
          have hlx_2 := Nat.lt_of_lt_of_le hlx_1 hb2.size
          have hcy_2 := cell_bel hcy_1 hb2 hly_1
          have hly_2 := Nat.lt_of_lt_of_le hly_1 hb2.size
          clear hK1 hcd_1 hld_1 hcs_1 hls_1 hcx_1 hlx_1 hcy_1 hly_1 hb2 hF2 hh2
          go_wp2_with (refine wpList_blk_yes (t := 46) (T := 46) (by rfl) rfl rfl Tryd.underlying46 rfl (by kernel_rfl) hcd_2 ?_)
          (with_reducible refine (h_o seed d xl yl As Ax Ay 32 cs 32 cx ny cy 0 v2 hd (hs.bel hK2) hns (by omega) hbs (hx.bel hK2) hnx (by omega) hbx (hy.bel hK2) hny (by omega) hby (hS.below hK2 (Nat.le_refl _)) hmH).mono ?_)
          rintro e v3 ⟨A3, c3, rfl, hF3, hh3, hb3⟩
          have hK3 := bnx hK2 hb3 hK2.size
          have hcd_3 := hcd_2.below hb3 hld_2
          have hld_3 := Nat.lt_of_lt_of_le hld_2 hb3.size
          have hcs_3 := cell_bel hcs_2 hb3 hls_2
          have hls_3 := Nat.lt_of_lt_of_le hls_2 hb3.size
          have hcx_3 := cell_bel hcx_2 hb3 hlx_2
          have hlx_3 := Nat.lt_of_lt_of_le hlx_2 hb3.size
          have hcy_3 := cell_bel hcy_2 hb3 hly_2
          have hly_3 := Nat.lt_of_lt_of_le hly_2 hb3.size
          clear hK2 hcd_2 hld_2 hcs_2 hls_2 hcx_2 hlx_2 hcy_2 hly_2 hb3 hF3 hh3
          go_upto_region 8 with (refine wpList_blk_yes (t := 46) (T := 46) (by rfl) rfl rfl Tryd.underlying46 rfl (by kernel_rfl) hcd_3 ?_)
          have hK4 := bal hK3 hK3.size (.cells #[.int .i64 16, .int .i64 24, .int .i64 32] 3)
          have hcd_4 := hcd_3.alloc (.cells #[.int .i64 16, .int .i64 24, .int .i64 32] 3)
          have hld_4 := Nat.lt_of_lt_of_le hld_3 (al_le v3 (.cells #[.int .i64 16, .int .i64 24, .int .i64 32] 3))
          have hcs_4 := cell_al hcs_3 hls_3 (.cells #[.int .i64 16, .int .i64 24, .int .i64 32] 3)
          have hls_4 := Nat.lt_of_lt_of_le hls_3 (al_le v3 (.cells #[.int .i64 16, .int .i64 24, .int .i64 32] 3))
          have hcx_4 := cell_al hcx_3 hlx_3 (.cells #[.int .i64 16, .int .i64 24, .int .i64 32] 3)
          have hlx_4 := Nat.lt_of_lt_of_le hlx_3 (al_le v3 (.cells #[.int .i64 16, .int .i64 24, .int .i64 32] 3))
          have hcy_4 := cell_al hcy_3 hly_3 (.cells #[.int .i64 16, .int .i64 24, .int .i64 32] 3)
          have hly_4 := Nat.lt_of_lt_of_le hly_3 (al_le v3 (.cells #[.int .i64 16, .int .i64 24, .int .i64 32] 3))
          change Code.wp _ _ _ _ (v3.alloc (.cells #[.int .i64 16, .int .i64 24, .int .i64 32] 3))
          generalize v3.alloc (.cells #[.int .i64 16, .int .i64 24, .int .i64 32] 3) = v4 at hK4 hcd_4 hld_4 hcs_4 hls_4 hcx_4 hlx_4 hcy_4 hly_4 ⊢
          clear hK3 hcd_3 hld_3 hcs_3 hls_3 hcx_3 hlx_3 hcy_3 hly_3
          go_wp2_with (refine wpList_blk_yes (t := 46) (T := 46) (by rfl) rfl rfl Tryd.underlying46 rfl (by kernel_rfl) hcd_4 ?_)
          (with_reducible refine (tw_o 16 seed d xl As Ax 32 cs 32 cx 0 v4 hd (hs.bel hK4) hns (by omega) hbs (hx.bel hK4) hnx (by omega) hbx (by omega) (hKT.bel hK4) hmT).mono ?_)
          rintro e v5 ⟨A5, c5, rfl, hF5, hh5, hb5⟩
          have hK5 := bnx hK4 hb5 hK4.size
          have hcd_5 := hcd_4.below hb5 hld_4
          have hld_5 := Nat.lt_of_lt_of_le hld_4 hb5.size
          have hcs_5 := cell_bel hcs_4 hb5 hls_4
          have hls_5 := Nat.lt_of_lt_of_le hls_4 hb5.size
          have hcx_5 := cell_bel hcx_4 hb5 hlx_4
          have hlx_5 := Nat.lt_of_lt_of_le hlx_4 hb5.size
          have hcy_5 := cell_bel hcy_4 hb5 hly_4
          have hly_5 := Nat.lt_of_lt_of_le hly_4 hb5.size
          clear hK4 hcd_4 hld_4 hcs_4 hls_4 hcx_4 hlx_4 hcy_4 hly_4 hb5 hF5 hh5
          go_wp2_with (refine wpList_blk_yes (t := 46) (T := 46) (by rfl) rfl rfl Tryd.underlying46 rfl (by kernel_rfl) hcd_5 ?_)
          go_ret
          exact ⟨rfl, hK5⟩
        · have hkI : (kn : Int) % 3 = 1 := by omega
          clear hk3
          have hmF : (fO seed d xl).length = 32 := fO_yes _ _ _ hns hnx
          have hmH : (hO seed d xl yl).length = 0 := hO_no _ _ _ _ (by omega)
          have hmT : (twO 24 seed d xl).length = 0 := twO_no _ _ _ _ (by omega)
          go_wp2_with (refine wpList_blk_yes (t := 46) (T := 46) (by rfl) rfl rfl Tryd.underlying46 rfl (by kernel_rfl) hcd_1 ?_)
          (with_reducible refine (f_o seed d xl As Ax 32 cs 32 cx 32 v1 hd (hs.bel hK1) hns (by omega) hbs (hx.bel hK1) hnx (by omega) hbx (hS.below hK1 (Nat.le_refl _)) hmF).mono ?_)
          rintro e v2 ⟨A2, c2, rfl, hF2, hh2, hb2⟩
          have hK2 := bnx hK1 hb2 hK1.size
          have hcd_2 := hcd_1.below hb2 hld_1
          have hld_2 := Nat.lt_of_lt_of_le hld_1 hb2.size
          have hcs_2 := cell_bel hcs_1 hb2 hls_1
          have hls_2 := Nat.lt_of_lt_of_le hls_1 hb2.size
          have hcx_2 := cell_bel hcx_1 hb2 hlx_1
          have hlx_2 := Nat.lt_of_lt_of_le hlx_1 hb2.size
          have hcy_2 := cell_bel hcy_1 hb2 hly_1
          have hly_2 := Nat.lt_of_lt_of_le hly_1 hb2.size
          clear hK1 hcd_1 hld_1 hcs_1 hls_1 hcx_1 hlx_1 hcy_1 hly_1 hb2 hF2 hh2
          go_wp2_with (refine wpList_blk_yes (t := 46) (T := 46) (by rfl) rfl rfl Tryd.underlying46 rfl (by kernel_rfl) hcd_2 ?_)
          (with_reducible refine (h_o seed d xl yl As Ax Ay 32 cs 32 cx ny cy 0 v2 hd (hs.bel hK2) hns (by omega) hbs (hx.bel hK2) hnx (by omega) hbx (hy.bel hK2) hny (by omega) hby (hS.below hK2 (Nat.le_refl _)) hmH).mono ?_)
          rintro e v3 ⟨A3, c3, rfl, hF3, hh3, hb3⟩
          have hK3 := bnx hK2 hb3 hK2.size
          have hcd_3 := hcd_2.below hb3 hld_2
          have hld_3 := Nat.lt_of_lt_of_le hld_2 hb3.size
          have hcs_3 := cell_bel hcs_2 hb3 hls_2
          have hls_3 := Nat.lt_of_lt_of_le hls_2 hb3.size
          have hcx_3 := cell_bel hcx_2 hb3 hlx_2
          have hlx_3 := Nat.lt_of_lt_of_le hlx_2 hb3.size
          have hcy_3 := cell_bel hcy_2 hb3 hly_2
          have hly_3 := Nat.lt_of_lt_of_le hly_2 hb3.size
          clear hK2 hcd_2 hld_2 hcs_2 hls_2 hcx_2 hlx_2 hcy_2 hly_2 hb3 hF3 hh3
          go_upto_region 8 with (refine wpList_blk_yes (t := 46) (T := 46) (by rfl) rfl rfl Tryd.underlying46 rfl (by kernel_rfl) hcd_3 ?_)
          have hK4 := bal hK3 hK3.size (.cells #[.int .i64 16, .int .i64 24, .int .i64 32] 3)
          have hcd_4 := hcd_3.alloc (.cells #[.int .i64 16, .int .i64 24, .int .i64 32] 3)
          have hld_4 := Nat.lt_of_lt_of_le hld_3 (al_le v3 (.cells #[.int .i64 16, .int .i64 24, .int .i64 32] 3))
          have hcs_4 := cell_al hcs_3 hls_3 (.cells #[.int .i64 16, .int .i64 24, .int .i64 32] 3)
          have hls_4 := Nat.lt_of_lt_of_le hls_3 (al_le v3 (.cells #[.int .i64 16, .int .i64 24, .int .i64 32] 3))
          have hcx_4 := cell_al hcx_3 hlx_3 (.cells #[.int .i64 16, .int .i64 24, .int .i64 32] 3)
          have hlx_4 := Nat.lt_of_lt_of_le hlx_3 (al_le v3 (.cells #[.int .i64 16, .int .i64 24, .int .i64 32] 3))
          have hcy_4 := cell_al hcy_3 hly_3 (.cells #[.int .i64 16, .int .i64 24, .int .i64 32] 3)
          have hly_4 := Nat.lt_of_lt_of_le hly_3 (al_le v3 (.cells #[.int .i64 16, .int .i64 24, .int .i64 32] 3))
          change Code.wp _ _ _ _ (v3.alloc (.cells #[.int .i64 16, .int .i64 24, .int .i64 32] 3))
          generalize v3.alloc (.cells #[.int .i64 16, .int .i64 24, .int .i64 32] 3) = v4 at hK4 hcd_4 hld_4 hcs_4 hls_4 hcx_4 hlx_4 hcy_4 hly_4 ⊢
          clear hK3 hcd_3 hld_3 hcs_3 hls_3 hcx_3 hlx_3 hcy_3 hly_3
          go_wp2_with (refine wpList_blk_yes (t := 46) (T := 46) (by rfl) rfl rfl Tryd.underlying46 rfl (by kernel_rfl) hcd_4 ?_)
          (with_reducible refine (tw_o 24 seed d xl As Ax 32 cs 32 cx 0 v4 hd (hs.bel hK4) hns (by omega) hbs (hx.bel hK4) hnx (by omega) hbx (by omega) (hKT.bel hK4) hmT).mono ?_)
          rintro e v5 ⟨A5, c5, rfl, hF5, hh5, hb5⟩
          have hK5 := bnx hK4 hb5 hK4.size
          have hcd_5 := hcd_4.below hb5 hld_4
          have hld_5 := Nat.lt_of_lt_of_le hld_4 hb5.size
          have hcs_5 := cell_bel hcs_4 hb5 hls_4
          have hls_5 := Nat.lt_of_lt_of_le hls_4 hb5.size
          have hcx_5 := cell_bel hcx_4 hb5 hlx_4
          have hlx_5 := Nat.lt_of_lt_of_le hlx_4 hb5.size
          have hcy_5 := cell_bel hcy_4 hb5 hly_4
          have hly_5 := Nat.lt_of_lt_of_le hly_4 hb5.size
          clear hK4 hcd_4 hld_4 hcs_4 hls_4 hcx_4 hlx_4 hcy_4 hly_4 hb5 hF5 hh5
          go_wp2_with (refine wpList_blk_yes (t := 46) (T := 46) (by rfl) rfl rfl Tryd.underlying46 rfl (by kernel_rfl) hcd_5 ?_)
          go_ret
          exact ⟨rfl, hK5⟩
        · have hkI : (kn : Int) % 3 = 2 := by omega
          clear hk3
          have hmF : (fO seed d xl).length = 32 := fO_yes _ _ _ hns hnx
          have hmH : (hO seed d xl yl).length = 0 := hO_no _ _ _ _ (by omega)
          have hmT : (twO 32 seed d xl).length = 32 := twO_yes _ 32 _ _ _ rfl (by decide) hns
          go_wp2_with (refine wpList_blk_yes (t := 46) (T := 46) (by rfl) rfl rfl Tryd.underlying46 rfl (by kernel_rfl) hcd_1 ?_)
          (with_reducible refine (f_o seed d xl As Ax 32 cs 32 cx 32 v1 hd (hs.bel hK1) hns (by omega) hbs (hx.bel hK1) hnx (by omega) hbx (hS.below hK1 (Nat.le_refl _)) hmF).mono ?_)
          rintro e v2 ⟨A2, c2, rfl, hF2, hh2, hb2⟩
          have hK2 := bnx hK1 hb2 hK1.size
          have hcd_2 := hcd_1.below hb2 hld_1
          have hld_2 := Nat.lt_of_lt_of_le hld_1 hb2.size
          have hcs_2 := cell_bel hcs_1 hb2 hls_1
          have hls_2 := Nat.lt_of_lt_of_le hls_1 hb2.size
          have hcx_2 := cell_bel hcx_1 hb2 hlx_1
          have hlx_2 := Nat.lt_of_lt_of_le hlx_1 hb2.size
          have hcy_2 := cell_bel hcy_1 hb2 hly_1
          have hly_2 := Nat.lt_of_lt_of_le hly_1 hb2.size
          clear hK1 hcd_1 hld_1 hcs_1 hls_1 hcx_1 hlx_1 hcy_1 hly_1 hb2 hF2 hh2
          go_wp2_with (refine wpList_blk_yes (t := 46) (T := 46) (by rfl) rfl rfl Tryd.underlying46 rfl (by kernel_rfl) hcd_2 ?_)
          (with_reducible refine (h_o seed d xl yl As Ax Ay 32 cs 32 cx ny cy 0 v2 hd (hs.bel hK2) hns (by omega) hbs (hx.bel hK2) hnx (by omega) hbx (hy.bel hK2) hny (by omega) hby (hS.below hK2 (Nat.le_refl _)) hmH).mono ?_)
          rintro e v3 ⟨A3, c3, rfl, hF3, hh3, hb3⟩
          have hK3 := bnx hK2 hb3 hK2.size
          have hcd_3 := hcd_2.below hb3 hld_2
          have hld_3 := Nat.lt_of_lt_of_le hld_2 hb3.size
          have hcs_3 := cell_bel hcs_2 hb3 hls_2
          have hls_3 := Nat.lt_of_lt_of_le hls_2 hb3.size
          have hcx_3 := cell_bel hcx_2 hb3 hlx_2
          have hlx_3 := Nat.lt_of_lt_of_le hlx_2 hb3.size
          have hcy_3 := cell_bel hcy_2 hb3 hly_2
          have hly_3 := Nat.lt_of_lt_of_le hly_2 hb3.size
          clear hK2 hcd_2 hld_2 hcs_2 hls_2 hcx_2 hlx_2 hcy_2 hly_2 hb3 hF3 hh3
          go_upto_region 8 with (refine wpList_blk_yes (t := 46) (T := 46) (by rfl) rfl rfl Tryd.underlying46 rfl (by kernel_rfl) hcd_3 ?_)
          have hK4 := bal hK3 hK3.size (.cells #[.int .i64 16, .int .i64 24, .int .i64 32] 3)
          have hcd_4 := hcd_3.alloc (.cells #[.int .i64 16, .int .i64 24, .int .i64 32] 3)
          have hld_4 := Nat.lt_of_lt_of_le hld_3 (al_le v3 (.cells #[.int .i64 16, .int .i64 24, .int .i64 32] 3))
          have hcs_4 := cell_al hcs_3 hls_3 (.cells #[.int .i64 16, .int .i64 24, .int .i64 32] 3)
          have hls_4 := Nat.lt_of_lt_of_le hls_3 (al_le v3 (.cells #[.int .i64 16, .int .i64 24, .int .i64 32] 3))
          have hcx_4 := cell_al hcx_3 hlx_3 (.cells #[.int .i64 16, .int .i64 24, .int .i64 32] 3)
          have hlx_4 := Nat.lt_of_lt_of_le hlx_3 (al_le v3 (.cells #[.int .i64 16, .int .i64 24, .int .i64 32] 3))
          have hcy_4 := cell_al hcy_3 hly_3 (.cells #[.int .i64 16, .int .i64 24, .int .i64 32] 3)
          have hly_4 := Nat.lt_of_lt_of_le hly_3 (al_le v3 (.cells #[.int .i64 16, .int .i64 24, .int .i64 32] 3))
          change Code.wp _ _ _ _ (v3.alloc (.cells #[.int .i64 16, .int .i64 24, .int .i64 32] 3))
          generalize v3.alloc (.cells #[.int .i64 16, .int .i64 24, .int .i64 32] 3) = v4 at hK4 hcd_4 hld_4 hcs_4 hls_4 hcx_4 hlx_4 hcy_4 hly_4 ⊢
          clear hK3 hcd_3 hld_3 hcs_3 hls_3 hcx_3 hlx_3 hcy_3 hly_3
          go_wp2_with (refine wpList_blk_yes (t := 46) (T := 46) (by rfl) rfl rfl Tryd.underlying46 rfl (by kernel_rfl) hcd_4 ?_)
          (with_reducible refine (tw_o 32 seed d xl As Ax 32 cs 32 cx 32 v4 hd (hs.bel hK4) hns (by omega) hbs (hx.bel hK4) hnx (by omega) hbx (by omega) (hKT.bel hK4) hmT).mono ?_)
          rintro e v5 ⟨A5, c5, rfl, hF5, hh5, hb5⟩
          have hK5 := bnx hK4 hb5 hK4.size
          have hcd_5 := hcd_4.below hb5 hld_4
          have hld_5 := Nat.lt_of_lt_of_le hld_4 hb5.size
          have hcs_5 := cell_bel hcs_4 hb5 hls_4
          have hls_5 := Nat.lt_of_lt_of_le hls_4 hb5.size
          have hcx_5 := cell_bel hcx_4 hb5 hlx_4
          have hlx_5 := Nat.lt_of_lt_of_le hlx_4 hb5.size
          have hcy_5 := cell_bel hcy_4 hb5 hly_4
          have hly_5 := Nat.lt_of_lt_of_le hly_4 hb5.size
          clear hK4 hcd_4 hld_4 hcs_4 hls_4 hcx_4 hlx_4 hcy_4 hly_4 hb5 hF5 hh5
          go_wp2_with (refine wpList_blk_yes (t := 46) (T := 46) (by rfl) rfl rfl Tryd.underlying46 rfl (by kernel_rfl) hcd_5 ?_)
          go_ret
          exact ⟨rfl, hK5⟩
    · have ex32 : ((nx : Int) == 32) = false := by simp; omega
      have hk3 : kn % 3 = 0 ∨ kn % 3 = 1 ∨ kn % 3 = 2 := by omega
      rcases hk3 with hk3 | hk3 | hk3
      · have hkI : (kn : Int) % 3 = 0 := by omega
        clear hk3
        have hmF : (fO seed d xl).length = 0 := fO_no _ _ _ (by omega)
        have hmH : (hO seed d xl yl).length = 0 := hO_no _ _ _ _ (by omega)
        have hmT : (twO 16 seed d xl).length = 0 := twO_no _ _ _ _ (by omega)
        go_wp2_with (refine wpList_blk_yes (t := 46) (T := 46) (by rfl) rfl rfl Tryd.underlying46 rfl (by kernel_rfl) hcd_1 ?_)
        (with_reducible refine (f_o seed d xl As Ax 32 cs nx cx 0 v1 hd (hs.bel hK1) hns (by omega) hbs (hx.bel hK1) hnx (by omega) hbx (hS.below hK1 (Nat.le_refl _)) hmF).mono ?_)
        rintro e v2 ⟨A2, c2, rfl, hF2, hh2, hb2⟩
        have hK2 := bnx hK1 hb2 hK1.size
        have hcd_2 := hcd_1.below hb2 hld_1
        have hld_2 := Nat.lt_of_lt_of_le hld_1 hb2.size
        have hcs_2 := cell_bel hcs_1 hb2 hls_1
        have hls_2 := Nat.lt_of_lt_of_le hls_1 hb2.size
        have hcx_2 := cell_bel hcx_1 hb2 hlx_1
        have hlx_2 := Nat.lt_of_lt_of_le hlx_1 hb2.size
        have hcy_2 := cell_bel hcy_1 hb2 hly_1
        have hly_2 := Nat.lt_of_lt_of_le hly_1 hb2.size
        clear hK1 hcd_1 hld_1 hcs_1 hls_1 hcx_1 hlx_1 hcy_1 hly_1 hb2 hF2 hh2
        go_wp2_with (refine wpList_blk_yes (t := 46) (T := 46) (by rfl) rfl rfl Tryd.underlying46 rfl (by kernel_rfl) hcd_2 ?_)
        (with_reducible refine (h_o seed d xl yl As Ax Ay 32 cs nx cx ny cy 0 v2 hd (hs.bel hK2) hns (by omega) hbs (hx.bel hK2) hnx (by omega) hbx (hy.bel hK2) hny (by omega) hby (hS.below hK2 (Nat.le_refl _)) hmH).mono ?_)
        rintro e v3 ⟨A3, c3, rfl, hF3, hh3, hb3⟩
        have hK3 := bnx hK2 hb3 hK2.size
        have hcd_3 := hcd_2.below hb3 hld_2
        have hld_3 := Nat.lt_of_lt_of_le hld_2 hb3.size
        have hcs_3 := cell_bel hcs_2 hb3 hls_2
        have hls_3 := Nat.lt_of_lt_of_le hls_2 hb3.size
        have hcx_3 := cell_bel hcx_2 hb3 hlx_2
        have hlx_3 := Nat.lt_of_lt_of_le hlx_2 hb3.size
        have hcy_3 := cell_bel hcy_2 hb3 hly_2
        have hly_3 := Nat.lt_of_lt_of_le hly_2 hb3.size
        clear hK2 hcd_2 hld_2 hcs_2 hls_2 hcx_2 hlx_2 hcy_2 hly_2 hb3 hF3 hh3
        go_upto_region 8 with (refine wpList_blk_yes (t := 46) (T := 46) (by rfl) rfl rfl Tryd.underlying46 rfl (by kernel_rfl) hcd_3 ?_)
        have hK4 := bal hK3 hK3.size (.cells #[.int .i64 16, .int .i64 24, .int .i64 32] 3)
        have hcd_4 := hcd_3.alloc (.cells #[.int .i64 16, .int .i64 24, .int .i64 32] 3)
        have hld_4 := Nat.lt_of_lt_of_le hld_3 (al_le v3 (.cells #[.int .i64 16, .int .i64 24, .int .i64 32] 3))
        have hcs_4 := cell_al hcs_3 hls_3 (.cells #[.int .i64 16, .int .i64 24, .int .i64 32] 3)
        have hls_4 := Nat.lt_of_lt_of_le hls_3 (al_le v3 (.cells #[.int .i64 16, .int .i64 24, .int .i64 32] 3))
        have hcx_4 := cell_al hcx_3 hlx_3 (.cells #[.int .i64 16, .int .i64 24, .int .i64 32] 3)
        have hlx_4 := Nat.lt_of_lt_of_le hlx_3 (al_le v3 (.cells #[.int .i64 16, .int .i64 24, .int .i64 32] 3))
        have hcy_4 := cell_al hcy_3 hly_3 (.cells #[.int .i64 16, .int .i64 24, .int .i64 32] 3)
        have hly_4 := Nat.lt_of_lt_of_le hly_3 (al_le v3 (.cells #[.int .i64 16, .int .i64 24, .int .i64 32] 3))
        change Code.wp _ _ _ _ (v3.alloc (.cells #[.int .i64 16, .int .i64 24, .int .i64 32] 3))
        generalize v3.alloc (.cells #[.int .i64 16, .int .i64 24, .int .i64 32] 3) = v4 at hK4 hcd_4 hld_4 hcs_4 hls_4 hcx_4 hlx_4 hcy_4 hly_4 ⊢
        clear hK3 hcd_3 hld_3 hcs_3 hls_3 hcx_3 hlx_3 hcy_3 hly_3
        go_wp2_with (refine wpList_blk_yes (t := 46) (T := 46) (by rfl) rfl rfl Tryd.underlying46 rfl (by kernel_rfl) hcd_4 ?_)
        (with_reducible refine (tw_o 16 seed d xl As Ax 32 cs nx cx 0 v4 hd (hs.bel hK4) hns (by omega) hbs (hx.bel hK4) hnx (by omega) hbx (by omega) (hKT.bel hK4) hmT).mono ?_)
        rintro e v5 ⟨A5, c5, rfl, hF5, hh5, hb5⟩
        have hK5 := bnx hK4 hb5 hK4.size
        have hcd_5 := hcd_4.below hb5 hld_4
        have hld_5 := Nat.lt_of_lt_of_le hld_4 hb5.size
        have hcs_5 := cell_bel hcs_4 hb5 hls_4
        have hls_5 := Nat.lt_of_lt_of_le hls_4 hb5.size
        have hcx_5 := cell_bel hcx_4 hb5 hlx_4
        have hlx_5 := Nat.lt_of_lt_of_le hlx_4 hb5.size
        have hcy_5 := cell_bel hcy_4 hb5 hly_4
        have hly_5 := Nat.lt_of_lt_of_le hly_4 hb5.size
        clear hK4 hcd_4 hld_4 hcs_4 hls_4 hcx_4 hlx_4 hcy_4 hly_4 hb5 hF5 hh5
        go_wp2_with (refine wpList_blk_yes (t := 46) (T := 46) (by rfl) rfl rfl Tryd.underlying46 rfl (by kernel_rfl) hcd_5 ?_)
        go_ret
        exact ⟨rfl, hK5⟩
      · have hkI : (kn : Int) % 3 = 1 := by omega
        clear hk3
        have hmF : (fO seed d xl).length = 0 := fO_no _ _ _ (by omega)
        have hmH : (hO seed d xl yl).length = 0 := hO_no _ _ _ _ (by omega)
        have hmT : (twO 24 seed d xl).length = 0 := twO_no _ _ _ _ (by omega)
        go_wp2_with (refine wpList_blk_yes (t := 46) (T := 46) (by rfl) rfl rfl Tryd.underlying46 rfl (by kernel_rfl) hcd_1 ?_)
        (with_reducible refine (f_o seed d xl As Ax 32 cs nx cx 0 v1 hd (hs.bel hK1) hns (by omega) hbs (hx.bel hK1) hnx (by omega) hbx (hS.below hK1 (Nat.le_refl _)) hmF).mono ?_)
        rintro e v2 ⟨A2, c2, rfl, hF2, hh2, hb2⟩
        have hK2 := bnx hK1 hb2 hK1.size
        have hcd_2 := hcd_1.below hb2 hld_1
        have hld_2 := Nat.lt_of_lt_of_le hld_1 hb2.size
        have hcs_2 := cell_bel hcs_1 hb2 hls_1
        have hls_2 := Nat.lt_of_lt_of_le hls_1 hb2.size
        have hcx_2 := cell_bel hcx_1 hb2 hlx_1
        have hlx_2 := Nat.lt_of_lt_of_le hlx_1 hb2.size
        have hcy_2 := cell_bel hcy_1 hb2 hly_1
        have hly_2 := Nat.lt_of_lt_of_le hly_1 hb2.size
        clear hK1 hcd_1 hld_1 hcs_1 hls_1 hcx_1 hlx_1 hcy_1 hly_1 hb2 hF2 hh2
        go_wp2_with (refine wpList_blk_yes (t := 46) (T := 46) (by rfl) rfl rfl Tryd.underlying46 rfl (by kernel_rfl) hcd_2 ?_)
        (with_reducible refine (h_o seed d xl yl As Ax Ay 32 cs nx cx ny cy 0 v2 hd (hs.bel hK2) hns (by omega) hbs (hx.bel hK2) hnx (by omega) hbx (hy.bel hK2) hny (by omega) hby (hS.below hK2 (Nat.le_refl _)) hmH).mono ?_)
        rintro e v3 ⟨A3, c3, rfl, hF3, hh3, hb3⟩
        have hK3 := bnx hK2 hb3 hK2.size
        have hcd_3 := hcd_2.below hb3 hld_2
        have hld_3 := Nat.lt_of_lt_of_le hld_2 hb3.size
        have hcs_3 := cell_bel hcs_2 hb3 hls_2
        have hls_3 := Nat.lt_of_lt_of_le hls_2 hb3.size
        have hcx_3 := cell_bel hcx_2 hb3 hlx_2
        have hlx_3 := Nat.lt_of_lt_of_le hlx_2 hb3.size
        have hcy_3 := cell_bel hcy_2 hb3 hly_2
        have hly_3 := Nat.lt_of_lt_of_le hly_2 hb3.size
        clear hK2 hcd_2 hld_2 hcs_2 hls_2 hcx_2 hlx_2 hcy_2 hly_2 hb3 hF3 hh3
        go_upto_region 8 with (refine wpList_blk_yes (t := 46) (T := 46) (by rfl) rfl rfl Tryd.underlying46 rfl (by kernel_rfl) hcd_3 ?_)
        have hK4 := bal hK3 hK3.size (.cells #[.int .i64 16, .int .i64 24, .int .i64 32] 3)
        have hcd_4 := hcd_3.alloc (.cells #[.int .i64 16, .int .i64 24, .int .i64 32] 3)
        have hld_4 := Nat.lt_of_lt_of_le hld_3 (al_le v3 (.cells #[.int .i64 16, .int .i64 24, .int .i64 32] 3))
        have hcs_4 := cell_al hcs_3 hls_3 (.cells #[.int .i64 16, .int .i64 24, .int .i64 32] 3)
        have hls_4 := Nat.lt_of_lt_of_le hls_3 (al_le v3 (.cells #[.int .i64 16, .int .i64 24, .int .i64 32] 3))
        have hcx_4 := cell_al hcx_3 hlx_3 (.cells #[.int .i64 16, .int .i64 24, .int .i64 32] 3)
        have hlx_4 := Nat.lt_of_lt_of_le hlx_3 (al_le v3 (.cells #[.int .i64 16, .int .i64 24, .int .i64 32] 3))
        have hcy_4 := cell_al hcy_3 hly_3 (.cells #[.int .i64 16, .int .i64 24, .int .i64 32] 3)
        have hly_4 := Nat.lt_of_lt_of_le hly_3 (al_le v3 (.cells #[.int .i64 16, .int .i64 24, .int .i64 32] 3))
        change Code.wp _ _ _ _ (v3.alloc (.cells #[.int .i64 16, .int .i64 24, .int .i64 32] 3))
        generalize v3.alloc (.cells #[.int .i64 16, .int .i64 24, .int .i64 32] 3) = v4 at hK4 hcd_4 hld_4 hcs_4 hls_4 hcx_4 hlx_4 hcy_4 hly_4 ⊢
        clear hK3 hcd_3 hld_3 hcs_3 hls_3 hcx_3 hlx_3 hcy_3 hly_3
        go_wp2_with (refine wpList_blk_yes (t := 46) (T := 46) (by rfl) rfl rfl Tryd.underlying46 rfl (by kernel_rfl) hcd_4 ?_)
        (with_reducible refine (tw_o 24 seed d xl As Ax 32 cs nx cx 0 v4 hd (hs.bel hK4) hns (by omega) hbs (hx.bel hK4) hnx (by omega) hbx (by omega) (hKT.bel hK4) hmT).mono ?_)
        rintro e v5 ⟨A5, c5, rfl, hF5, hh5, hb5⟩
        have hK5 := bnx hK4 hb5 hK4.size
        have hcd_5 := hcd_4.below hb5 hld_4
        have hld_5 := Nat.lt_of_lt_of_le hld_4 hb5.size
        have hcs_5 := cell_bel hcs_4 hb5 hls_4
        have hls_5 := Nat.lt_of_lt_of_le hls_4 hb5.size
        have hcx_5 := cell_bel hcx_4 hb5 hlx_4
        have hlx_5 := Nat.lt_of_lt_of_le hlx_4 hb5.size
        have hcy_5 := cell_bel hcy_4 hb5 hly_4
        have hly_5 := Nat.lt_of_lt_of_le hly_4 hb5.size
        clear hK4 hcd_4 hld_4 hcs_4 hls_4 hcx_4 hlx_4 hcy_4 hly_4 hb5 hF5 hh5
        go_wp2_with (refine wpList_blk_yes (t := 46) (T := 46) (by rfl) rfl rfl Tryd.underlying46 rfl (by kernel_rfl) hcd_5 ?_)
        go_ret
        exact ⟨rfl, hK5⟩
      · have hkI : (kn : Int) % 3 = 2 := by omega
        clear hk3
        have hmF : (fO seed d xl).length = 0 := fO_no _ _ _ (by omega)
        have hmH : (hO seed d xl yl).length = 0 := hO_no _ _ _ _ (by omega)
        have hmT : (twO 32 seed d xl).length = 32 := twO_yes _ 32 _ _ _ rfl (by decide) hns
        go_wp2_with (refine wpList_blk_yes (t := 46) (T := 46) (by rfl) rfl rfl Tryd.underlying46 rfl (by kernel_rfl) hcd_1 ?_)
        (with_reducible refine (f_o seed d xl As Ax 32 cs nx cx 0 v1 hd (hs.bel hK1) hns (by omega) hbs (hx.bel hK1) hnx (by omega) hbx (hS.below hK1 (Nat.le_refl _)) hmF).mono ?_)
        rintro e v2 ⟨A2, c2, rfl, hF2, hh2, hb2⟩
        have hK2 := bnx hK1 hb2 hK1.size
        have hcd_2 := hcd_1.below hb2 hld_1
        have hld_2 := Nat.lt_of_lt_of_le hld_1 hb2.size
        have hcs_2 := cell_bel hcs_1 hb2 hls_1
        have hls_2 := Nat.lt_of_lt_of_le hls_1 hb2.size
        have hcx_2 := cell_bel hcx_1 hb2 hlx_1
        have hlx_2 := Nat.lt_of_lt_of_le hlx_1 hb2.size
        have hcy_2 := cell_bel hcy_1 hb2 hly_1
        have hly_2 := Nat.lt_of_lt_of_le hly_1 hb2.size
        clear hK1 hcd_1 hld_1 hcs_1 hls_1 hcx_1 hlx_1 hcy_1 hly_1 hb2 hF2 hh2
        go_wp2_with (refine wpList_blk_yes (t := 46) (T := 46) (by rfl) rfl rfl Tryd.underlying46 rfl (by kernel_rfl) hcd_2 ?_)
        (with_reducible refine (h_o seed d xl yl As Ax Ay 32 cs nx cx ny cy 0 v2 hd (hs.bel hK2) hns (by omega) hbs (hx.bel hK2) hnx (by omega) hbx (hy.bel hK2) hny (by omega) hby (hS.below hK2 (Nat.le_refl _)) hmH).mono ?_)
        rintro e v3 ⟨A3, c3, rfl, hF3, hh3, hb3⟩
        have hK3 := bnx hK2 hb3 hK2.size
        have hcd_3 := hcd_2.below hb3 hld_2
        have hld_3 := Nat.lt_of_lt_of_le hld_2 hb3.size
        have hcs_3 := cell_bel hcs_2 hb3 hls_2
        have hls_3 := Nat.lt_of_lt_of_le hls_2 hb3.size
        have hcx_3 := cell_bel hcx_2 hb3 hlx_2
        have hlx_3 := Nat.lt_of_lt_of_le hlx_2 hb3.size
        have hcy_3 := cell_bel hcy_2 hb3 hly_2
        have hly_3 := Nat.lt_of_lt_of_le hly_2 hb3.size
        clear hK2 hcd_2 hld_2 hcs_2 hls_2 hcx_2 hlx_2 hcy_2 hly_2 hb3 hF3 hh3
        go_upto_region 8 with (refine wpList_blk_yes (t := 46) (T := 46) (by rfl) rfl rfl Tryd.underlying46 rfl (by kernel_rfl) hcd_3 ?_)
        have hK4 := bal hK3 hK3.size (.cells #[.int .i64 16, .int .i64 24, .int .i64 32] 3)
        have hcd_4 := hcd_3.alloc (.cells #[.int .i64 16, .int .i64 24, .int .i64 32] 3)
        have hld_4 := Nat.lt_of_lt_of_le hld_3 (al_le v3 (.cells #[.int .i64 16, .int .i64 24, .int .i64 32] 3))
        have hcs_4 := cell_al hcs_3 hls_3 (.cells #[.int .i64 16, .int .i64 24, .int .i64 32] 3)
        have hls_4 := Nat.lt_of_lt_of_le hls_3 (al_le v3 (.cells #[.int .i64 16, .int .i64 24, .int .i64 32] 3))
        have hcx_4 := cell_al hcx_3 hlx_3 (.cells #[.int .i64 16, .int .i64 24, .int .i64 32] 3)
        have hlx_4 := Nat.lt_of_lt_of_le hlx_3 (al_le v3 (.cells #[.int .i64 16, .int .i64 24, .int .i64 32] 3))
        have hcy_4 := cell_al hcy_3 hly_3 (.cells #[.int .i64 16, .int .i64 24, .int .i64 32] 3)
        have hly_4 := Nat.lt_of_lt_of_le hly_3 (al_le v3 (.cells #[.int .i64 16, .int .i64 24, .int .i64 32] 3))
        change Code.wp _ _ _ _ (v3.alloc (.cells #[.int .i64 16, .int .i64 24, .int .i64 32] 3))
        generalize v3.alloc (.cells #[.int .i64 16, .int .i64 24, .int .i64 32] 3) = v4 at hK4 hcd_4 hld_4 hcs_4 hls_4 hcx_4 hlx_4 hcy_4 hly_4 ⊢
        clear hK3 hcd_3 hld_3 hcs_3 hls_3 hcx_3 hlx_3 hcy_3 hly_3
        go_wp2_with (refine wpList_blk_yes (t := 46) (T := 46) (by rfl) rfl rfl Tryd.underlying46 rfl (by kernel_rfl) hcd_4 ?_)
        (with_reducible refine (tw_o 32 seed d xl As Ax 32 cs nx cx 32 v4 hd (hs.bel hK4) hns (by omega) hbs (hx.bel hK4) hnx (by omega) hbx (by omega) (hKT.bel hK4) hmT).mono ?_)
        rintro e v5 ⟨A5, c5, rfl, hF5, hh5, hb5⟩
        have hK5 := bnx hK4 hb5 hK4.size
        have hcd_5 := hcd_4.below hb5 hld_4
        have hld_5 := Nat.lt_of_lt_of_le hld_4 hb5.size
        have hcs_5 := cell_bel hcs_4 hb5 hls_4
        have hls_5 := Nat.lt_of_lt_of_le hls_4 hb5.size
        have hcx_5 := cell_bel hcx_4 hb5 hlx_4
        have hlx_5 := Nat.lt_of_lt_of_le hlx_4 hb5.size
        have hcy_5 := cell_bel hcy_4 hb5 hly_4
        have hly_5 := Nat.lt_of_lt_of_le hly_4 hb5.size
        clear hK4 hcd_4 hld_4 hcs_4 hls_4 hcx_4 hlx_4 hcy_4 hly_4 hb5 hF5 hh5
        go_wp2_with (refine wpList_blk_yes (t := 46) (T := 46) (by rfl) rfl rfl Tryd.underlying46 rfl (by kernel_rfl) hcd_5 ?_)
        go_ret
        exact ⟨rfl, hK5⟩
  · have es32 : ((ns : Int) == 32) = false := by simp; omega
    have hk3 : kn % 3 = 0 ∨ kn % 3 = 1 ∨ kn % 3 = 2 := by omega
    rcases hk3 with hk3 | hk3 | hk3
    · have hkI : (kn : Int) % 3 = 0 := by omega
      clear hk3
      by_cases qk : ns = 16
      · subst qk
        have hmF : (fO seed d xl).length = 0 := fO_no _ _ _ (by omega)
        have hmH : (hO seed d xl yl).length = 0 := hO_no _ _ _ _ (by omega)
        have hmT : (twO 16 seed d xl).length = 16 := twO_yes _ 16 _ _ _ rfl (by decide) hns
        go_wp2_with (refine wpList_blk_yes (t := 46) (T := 46) (by rfl) rfl rfl Tryd.underlying46 rfl (by kernel_rfl) hcd_1 ?_)
        (with_reducible refine (f_o seed d xl As Ax 16 cs nx cx 0 v1 hd (hs.bel hK1) hns (by omega) hbs (hx.bel hK1) hnx (by omega) hbx (hS.below hK1 (Nat.le_refl _)) hmF).mono ?_)
        rintro e v2 ⟨A2, c2, rfl, hF2, hh2, hb2⟩
        have hK2 := bnx hK1 hb2 hK1.size
        have hcd_2 := hcd_1.below hb2 hld_1
        have hld_2 := Nat.lt_of_lt_of_le hld_1 hb2.size
        have hcs_2 := cell_bel hcs_1 hb2 hls_1
        have hls_2 := Nat.lt_of_lt_of_le hls_1 hb2.size
        have hcx_2 := cell_bel hcx_1 hb2 hlx_1
        have hlx_2 := Nat.lt_of_lt_of_le hlx_1 hb2.size
        have hcy_2 := cell_bel hcy_1 hb2 hly_1
        have hly_2 := Nat.lt_of_lt_of_le hly_1 hb2.size
        clear hK1 hcd_1 hld_1 hcs_1 hls_1 hcx_1 hlx_1 hcy_1 hly_1 hb2 hF2 hh2
        go_wp2_with (refine wpList_blk_yes (t := 46) (T := 46) (by rfl) rfl rfl Tryd.underlying46 rfl (by kernel_rfl) hcd_2 ?_)
        (with_reducible refine (h_o seed d xl yl As Ax Ay 16 cs nx cx ny cy 0 v2 hd (hs.bel hK2) hns (by omega) hbs (hx.bel hK2) hnx (by omega) hbx (hy.bel hK2) hny (by omega) hby (hS.below hK2 (Nat.le_refl _)) hmH).mono ?_)
        rintro e v3 ⟨A3, c3, rfl, hF3, hh3, hb3⟩
        have hK3 := bnx hK2 hb3 hK2.size
        have hcd_3 := hcd_2.below hb3 hld_2
        have hld_3 := Nat.lt_of_lt_of_le hld_2 hb3.size
        have hcs_3 := cell_bel hcs_2 hb3 hls_2
        have hls_3 := Nat.lt_of_lt_of_le hls_2 hb3.size
        have hcx_3 := cell_bel hcx_2 hb3 hlx_2
        have hlx_3 := Nat.lt_of_lt_of_le hlx_2 hb3.size
        have hcy_3 := cell_bel hcy_2 hb3 hly_2
        have hly_3 := Nat.lt_of_lt_of_le hly_2 hb3.size
        clear hK2 hcd_2 hld_2 hcs_2 hls_2 hcx_2 hlx_2 hcy_2 hly_2 hb3 hF3 hh3
        go_upto_region 8 with (refine wpList_blk_yes (t := 46) (T := 46) (by rfl) rfl rfl Tryd.underlying46 rfl (by kernel_rfl) hcd_3 ?_)
        have hK4 := bal hK3 hK3.size (.cells #[.int .i64 16, .int .i64 24, .int .i64 32] 3)
        have hcd_4 := hcd_3.alloc (.cells #[.int .i64 16, .int .i64 24, .int .i64 32] 3)
        have hld_4 := Nat.lt_of_lt_of_le hld_3 (al_le v3 (.cells #[.int .i64 16, .int .i64 24, .int .i64 32] 3))
        have hcs_4 := cell_al hcs_3 hls_3 (.cells #[.int .i64 16, .int .i64 24, .int .i64 32] 3)
        have hls_4 := Nat.lt_of_lt_of_le hls_3 (al_le v3 (.cells #[.int .i64 16, .int .i64 24, .int .i64 32] 3))
        have hcx_4 := cell_al hcx_3 hlx_3 (.cells #[.int .i64 16, .int .i64 24, .int .i64 32] 3)
        have hlx_4 := Nat.lt_of_lt_of_le hlx_3 (al_le v3 (.cells #[.int .i64 16, .int .i64 24, .int .i64 32] 3))
        have hcy_4 := cell_al hcy_3 hly_3 (.cells #[.int .i64 16, .int .i64 24, .int .i64 32] 3)
        have hly_4 := Nat.lt_of_lt_of_le hly_3 (al_le v3 (.cells #[.int .i64 16, .int .i64 24, .int .i64 32] 3))
        change Code.wp _ _ _ _ (v3.alloc (.cells #[.int .i64 16, .int .i64 24, .int .i64 32] 3))
        generalize v3.alloc (.cells #[.int .i64 16, .int .i64 24, .int .i64 32] 3) = v4 at hK4 hcd_4 hld_4 hcs_4 hls_4 hcx_4 hlx_4 hcy_4 hly_4 ⊢
        clear hK3 hcd_3 hld_3 hcs_3 hls_3 hcx_3 hlx_3 hcy_3 hly_3
        go_wp2_with (refine wpList_blk_yes (t := 46) (T := 46) (by rfl) rfl rfl Tryd.underlying46 rfl (by kernel_rfl) hcd_4 ?_)
        (with_reducible refine (tw_o 16 seed d xl As Ax 16 cs nx cx 16 v4 hd (hs.bel hK4) hns (by omega) hbs (hx.bel hK4) hnx (by omega) hbx (by omega) (hKT.bel hK4) hmT).mono ?_)
        rintro e v5 ⟨A5, c5, rfl, hF5, hh5, hb5⟩
        have hK5 := bnx hK4 hb5 hK4.size
        have hcd_5 := hcd_4.below hb5 hld_4
        have hld_5 := Nat.lt_of_lt_of_le hld_4 hb5.size
        have hcs_5 := cell_bel hcs_4 hb5 hls_4
        have hls_5 := Nat.lt_of_lt_of_le hls_4 hb5.size
        have hcx_5 := cell_bel hcx_4 hb5 hlx_4
        have hlx_5 := Nat.lt_of_lt_of_le hlx_4 hb5.size
        have hcy_5 := cell_bel hcy_4 hb5 hly_4
        have hly_5 := Nat.lt_of_lt_of_le hly_4 hb5.size
        clear hK4 hcd_4 hld_4 hcs_4 hls_4 hcx_4 hlx_4 hcy_4 hly_4 hb5 hF5 hh5
        go_wp2_with (refine wpList_blk_yes (t := 46) (T := 46) (by rfl) rfl rfl Tryd.underlying46 rfl (by kernel_rfl) hcd_5 ?_)
        go_ret
        exact ⟨rfl, hK5⟩
      · have es16 : ((ns : Int) == 16) = false := by simp; omega
        have hmF : (fO seed d xl).length = 0 := fO_no _ _ _ (by omega)
        have hmH : (hO seed d xl yl).length = 0 := hO_no _ _ _ _ (by omega)
        have hmT : (twO 16 seed d xl).length = 0 := twO_no _ _ _ _ (by omega)
        go_wp2_with (refine wpList_blk_yes (t := 46) (T := 46) (by rfl) rfl rfl Tryd.underlying46 rfl (by kernel_rfl) hcd_1 ?_)
        (with_reducible refine (f_o seed d xl As Ax ns cs nx cx 0 v1 hd (hs.bel hK1) hns (by omega) hbs (hx.bel hK1) hnx (by omega) hbx (hS.below hK1 (Nat.le_refl _)) hmF).mono ?_)
        rintro e v2 ⟨A2, c2, rfl, hF2, hh2, hb2⟩
        have hK2 := bnx hK1 hb2 hK1.size
        have hcd_2 := hcd_1.below hb2 hld_1
        have hld_2 := Nat.lt_of_lt_of_le hld_1 hb2.size
        have hcs_2 := cell_bel hcs_1 hb2 hls_1
        have hls_2 := Nat.lt_of_lt_of_le hls_1 hb2.size
        have hcx_2 := cell_bel hcx_1 hb2 hlx_1
        have hlx_2 := Nat.lt_of_lt_of_le hlx_1 hb2.size
        have hcy_2 := cell_bel hcy_1 hb2 hly_1
        have hly_2 := Nat.lt_of_lt_of_le hly_1 hb2.size
        clear hK1 hcd_1 hld_1 hcs_1 hls_1 hcx_1 hlx_1 hcy_1 hly_1 hb2 hF2 hh2
        go_wp2_with (refine wpList_blk_yes (t := 46) (T := 46) (by rfl) rfl rfl Tryd.underlying46 rfl (by kernel_rfl) hcd_2 ?_)
        (with_reducible refine (h_o seed d xl yl As Ax Ay ns cs nx cx ny cy 0 v2 hd (hs.bel hK2) hns (by omega) hbs (hx.bel hK2) hnx (by omega) hbx (hy.bel hK2) hny (by omega) hby (hS.below hK2 (Nat.le_refl _)) hmH).mono ?_)
        rintro e v3 ⟨A3, c3, rfl, hF3, hh3, hb3⟩
        have hK3 := bnx hK2 hb3 hK2.size
        have hcd_3 := hcd_2.below hb3 hld_2
        have hld_3 := Nat.lt_of_lt_of_le hld_2 hb3.size
        have hcs_3 := cell_bel hcs_2 hb3 hls_2
        have hls_3 := Nat.lt_of_lt_of_le hls_2 hb3.size
        have hcx_3 := cell_bel hcx_2 hb3 hlx_2
        have hlx_3 := Nat.lt_of_lt_of_le hlx_2 hb3.size
        have hcy_3 := cell_bel hcy_2 hb3 hly_2
        have hly_3 := Nat.lt_of_lt_of_le hly_2 hb3.size
        clear hK2 hcd_2 hld_2 hcs_2 hls_2 hcx_2 hlx_2 hcy_2 hly_2 hb3 hF3 hh3
        go_upto_region 8 with (refine wpList_blk_yes (t := 46) (T := 46) (by rfl) rfl rfl Tryd.underlying46 rfl (by kernel_rfl) hcd_3 ?_)
        have hK4 := bal hK3 hK3.size (.cells #[.int .i64 16, .int .i64 24, .int .i64 32] 3)
        have hcd_4 := hcd_3.alloc (.cells #[.int .i64 16, .int .i64 24, .int .i64 32] 3)
        have hld_4 := Nat.lt_of_lt_of_le hld_3 (al_le v3 (.cells #[.int .i64 16, .int .i64 24, .int .i64 32] 3))
        have hcs_4 := cell_al hcs_3 hls_3 (.cells #[.int .i64 16, .int .i64 24, .int .i64 32] 3)
        have hls_4 := Nat.lt_of_lt_of_le hls_3 (al_le v3 (.cells #[.int .i64 16, .int .i64 24, .int .i64 32] 3))
        have hcx_4 := cell_al hcx_3 hlx_3 (.cells #[.int .i64 16, .int .i64 24, .int .i64 32] 3)
        have hlx_4 := Nat.lt_of_lt_of_le hlx_3 (al_le v3 (.cells #[.int .i64 16, .int .i64 24, .int .i64 32] 3))
        have hcy_4 := cell_al hcy_3 hly_3 (.cells #[.int .i64 16, .int .i64 24, .int .i64 32] 3)
        have hly_4 := Nat.lt_of_lt_of_le hly_3 (al_le v3 (.cells #[.int .i64 16, .int .i64 24, .int .i64 32] 3))
        change Code.wp _ _ _ _ (v3.alloc (.cells #[.int .i64 16, .int .i64 24, .int .i64 32] 3))
        generalize v3.alloc (.cells #[.int .i64 16, .int .i64 24, .int .i64 32] 3) = v4 at hK4 hcd_4 hld_4 hcs_4 hls_4 hcx_4 hlx_4 hcy_4 hly_4 ⊢
        clear hK3 hcd_3 hld_3 hcs_3 hls_3 hcx_3 hlx_3 hcy_3 hly_3
        go_wp2_with (refine wpList_blk_yes (t := 46) (T := 46) (by rfl) rfl rfl Tryd.underlying46 rfl (by kernel_rfl) hcd_4 ?_)
        (with_reducible refine (tw_o 16 seed d xl As Ax ns cs nx cx 0 v4 hd (hs.bel hK4) hns (by omega) hbs (hx.bel hK4) hnx (by omega) hbx (by omega) (hKT.bel hK4) hmT).mono ?_)
        rintro e v5 ⟨A5, c5, rfl, hF5, hh5, hb5⟩
        have hK5 := bnx hK4 hb5 hK4.size
        have hcd_5 := hcd_4.below hb5 hld_4
        have hld_5 := Nat.lt_of_lt_of_le hld_4 hb5.size
        have hcs_5 := cell_bel hcs_4 hb5 hls_4
        have hls_5 := Nat.lt_of_lt_of_le hls_4 hb5.size
        have hcx_5 := cell_bel hcx_4 hb5 hlx_4
        have hlx_5 := Nat.lt_of_lt_of_le hlx_4 hb5.size
        have hcy_5 := cell_bel hcy_4 hb5 hly_4
        have hly_5 := Nat.lt_of_lt_of_le hly_4 hb5.size
        clear hK4 hcd_4 hld_4 hcs_4 hls_4 hcx_4 hlx_4 hcy_4 hly_4 hb5 hF5 hh5
        go_wp2_with (refine wpList_blk_yes (t := 46) (T := 46) (by rfl) rfl rfl Tryd.underlying46 rfl (by kernel_rfl) hcd_5 ?_)
        go_ret
        exact ⟨rfl, hK5⟩
    · have hkI : (kn : Int) % 3 = 1 := by omega
      clear hk3
      by_cases qk : ns = 24
      · subst qk
        have hmF : (fO seed d xl).length = 0 := fO_no _ _ _ (by omega)
        have hmH : (hO seed d xl yl).length = 0 := hO_no _ _ _ _ (by omega)
        have hmT : (twO 24 seed d xl).length = 24 := twO_yes _ 24 _ _ _ rfl (by decide) hns
        go_wp2_with (refine wpList_blk_yes (t := 46) (T := 46) (by rfl) rfl rfl Tryd.underlying46 rfl (by kernel_rfl) hcd_1 ?_)
        (with_reducible refine (f_o seed d xl As Ax 24 cs nx cx 0 v1 hd (hs.bel hK1) hns (by omega) hbs (hx.bel hK1) hnx (by omega) hbx (hS.below hK1 (Nat.le_refl _)) hmF).mono ?_)
        rintro e v2 ⟨A2, c2, rfl, hF2, hh2, hb2⟩
        have hK2 := bnx hK1 hb2 hK1.size
        have hcd_2 := hcd_1.below hb2 hld_1
        have hld_2 := Nat.lt_of_lt_of_le hld_1 hb2.size
        have hcs_2 := cell_bel hcs_1 hb2 hls_1
        have hls_2 := Nat.lt_of_lt_of_le hls_1 hb2.size
        have hcx_2 := cell_bel hcx_1 hb2 hlx_1
        have hlx_2 := Nat.lt_of_lt_of_le hlx_1 hb2.size
        have hcy_2 := cell_bel hcy_1 hb2 hly_1
        have hly_2 := Nat.lt_of_lt_of_le hly_1 hb2.size
        clear hK1 hcd_1 hld_1 hcs_1 hls_1 hcx_1 hlx_1 hcy_1 hly_1 hb2 hF2 hh2
        go_wp2_with (refine wpList_blk_yes (t := 46) (T := 46) (by rfl) rfl rfl Tryd.underlying46 rfl (by kernel_rfl) hcd_2 ?_)
        (with_reducible refine (h_o seed d xl yl As Ax Ay 24 cs nx cx ny cy 0 v2 hd (hs.bel hK2) hns (by omega) hbs (hx.bel hK2) hnx (by omega) hbx (hy.bel hK2) hny (by omega) hby (hS.below hK2 (Nat.le_refl _)) hmH).mono ?_)
        rintro e v3 ⟨A3, c3, rfl, hF3, hh3, hb3⟩
        have hK3 := bnx hK2 hb3 hK2.size
        have hcd_3 := hcd_2.below hb3 hld_2
        have hld_3 := Nat.lt_of_lt_of_le hld_2 hb3.size
        have hcs_3 := cell_bel hcs_2 hb3 hls_2
        have hls_3 := Nat.lt_of_lt_of_le hls_2 hb3.size
        have hcx_3 := cell_bel hcx_2 hb3 hlx_2
        have hlx_3 := Nat.lt_of_lt_of_le hlx_2 hb3.size
        have hcy_3 := cell_bel hcy_2 hb3 hly_2
        have hly_3 := Nat.lt_of_lt_of_le hly_2 hb3.size
        clear hK2 hcd_2 hld_2 hcs_2 hls_2 hcx_2 hlx_2 hcy_2 hly_2 hb3 hF3 hh3
        go_upto_region 8 with (refine wpList_blk_yes (t := 46) (T := 46) (by rfl) rfl rfl Tryd.underlying46 rfl (by kernel_rfl) hcd_3 ?_)
        have hK4 := bal hK3 hK3.size (.cells #[.int .i64 16, .int .i64 24, .int .i64 32] 3)
        have hcd_4 := hcd_3.alloc (.cells #[.int .i64 16, .int .i64 24, .int .i64 32] 3)
        have hld_4 := Nat.lt_of_lt_of_le hld_3 (al_le v3 (.cells #[.int .i64 16, .int .i64 24, .int .i64 32] 3))
        have hcs_4 := cell_al hcs_3 hls_3 (.cells #[.int .i64 16, .int .i64 24, .int .i64 32] 3)
        have hls_4 := Nat.lt_of_lt_of_le hls_3 (al_le v3 (.cells #[.int .i64 16, .int .i64 24, .int .i64 32] 3))
        have hcx_4 := cell_al hcx_3 hlx_3 (.cells #[.int .i64 16, .int .i64 24, .int .i64 32] 3)
        have hlx_4 := Nat.lt_of_lt_of_le hlx_3 (al_le v3 (.cells #[.int .i64 16, .int .i64 24, .int .i64 32] 3))
        have hcy_4 := cell_al hcy_3 hly_3 (.cells #[.int .i64 16, .int .i64 24, .int .i64 32] 3)
        have hly_4 := Nat.lt_of_lt_of_le hly_3 (al_le v3 (.cells #[.int .i64 16, .int .i64 24, .int .i64 32] 3))
        change Code.wp _ _ _ _ (v3.alloc (.cells #[.int .i64 16, .int .i64 24, .int .i64 32] 3))
        generalize v3.alloc (.cells #[.int .i64 16, .int .i64 24, .int .i64 32] 3) = v4 at hK4 hcd_4 hld_4 hcs_4 hls_4 hcx_4 hlx_4 hcy_4 hly_4 ⊢
        clear hK3 hcd_3 hld_3 hcs_3 hls_3 hcx_3 hlx_3 hcy_3 hly_3
        go_wp2_with (refine wpList_blk_yes (t := 46) (T := 46) (by rfl) rfl rfl Tryd.underlying46 rfl (by kernel_rfl) hcd_4 ?_)
        (with_reducible refine (tw_o 24 seed d xl As Ax 24 cs nx cx 24 v4 hd (hs.bel hK4) hns (by omega) hbs (hx.bel hK4) hnx (by omega) hbx (by omega) (hKT.bel hK4) hmT).mono ?_)
        rintro e v5 ⟨A5, c5, rfl, hF5, hh5, hb5⟩
        have hK5 := bnx hK4 hb5 hK4.size
        have hcd_5 := hcd_4.below hb5 hld_4
        have hld_5 := Nat.lt_of_lt_of_le hld_4 hb5.size
        have hcs_5 := cell_bel hcs_4 hb5 hls_4
        have hls_5 := Nat.lt_of_lt_of_le hls_4 hb5.size
        have hcx_5 := cell_bel hcx_4 hb5 hlx_4
        have hlx_5 := Nat.lt_of_lt_of_le hlx_4 hb5.size
        have hcy_5 := cell_bel hcy_4 hb5 hly_4
        have hly_5 := Nat.lt_of_lt_of_le hly_4 hb5.size
        clear hK4 hcd_4 hld_4 hcs_4 hls_4 hcx_4 hlx_4 hcy_4 hly_4 hb5 hF5 hh5
        go_wp2_with (refine wpList_blk_yes (t := 46) (T := 46) (by rfl) rfl rfl Tryd.underlying46 rfl (by kernel_rfl) hcd_5 ?_)
        go_ret
        exact ⟨rfl, hK5⟩
      · have es24 : ((ns : Int) == 24) = false := by simp; omega
        have hmF : (fO seed d xl).length = 0 := fO_no _ _ _ (by omega)
        have hmH : (hO seed d xl yl).length = 0 := hO_no _ _ _ _ (by omega)
        have hmT : (twO 24 seed d xl).length = 0 := twO_no _ _ _ _ (by omega)
        go_wp2_with (refine wpList_blk_yes (t := 46) (T := 46) (by rfl) rfl rfl Tryd.underlying46 rfl (by kernel_rfl) hcd_1 ?_)
        (with_reducible refine (f_o seed d xl As Ax ns cs nx cx 0 v1 hd (hs.bel hK1) hns (by omega) hbs (hx.bel hK1) hnx (by omega) hbx (hS.below hK1 (Nat.le_refl _)) hmF).mono ?_)
        rintro e v2 ⟨A2, c2, rfl, hF2, hh2, hb2⟩
        have hK2 := bnx hK1 hb2 hK1.size
        have hcd_2 := hcd_1.below hb2 hld_1
        have hld_2 := Nat.lt_of_lt_of_le hld_1 hb2.size
        have hcs_2 := cell_bel hcs_1 hb2 hls_1
        have hls_2 := Nat.lt_of_lt_of_le hls_1 hb2.size
        have hcx_2 := cell_bel hcx_1 hb2 hlx_1
        have hlx_2 := Nat.lt_of_lt_of_le hlx_1 hb2.size
        have hcy_2 := cell_bel hcy_1 hb2 hly_1
        have hly_2 := Nat.lt_of_lt_of_le hly_1 hb2.size
        clear hK1 hcd_1 hld_1 hcs_1 hls_1 hcx_1 hlx_1 hcy_1 hly_1 hb2 hF2 hh2
        go_wp2_with (refine wpList_blk_yes (t := 46) (T := 46) (by rfl) rfl rfl Tryd.underlying46 rfl (by kernel_rfl) hcd_2 ?_)
        (with_reducible refine (h_o seed d xl yl As Ax Ay ns cs nx cx ny cy 0 v2 hd (hs.bel hK2) hns (by omega) hbs (hx.bel hK2) hnx (by omega) hbx (hy.bel hK2) hny (by omega) hby (hS.below hK2 (Nat.le_refl _)) hmH).mono ?_)
        rintro e v3 ⟨A3, c3, rfl, hF3, hh3, hb3⟩
        have hK3 := bnx hK2 hb3 hK2.size
        have hcd_3 := hcd_2.below hb3 hld_2
        have hld_3 := Nat.lt_of_lt_of_le hld_2 hb3.size
        have hcs_3 := cell_bel hcs_2 hb3 hls_2
        have hls_3 := Nat.lt_of_lt_of_le hls_2 hb3.size
        have hcx_3 := cell_bel hcx_2 hb3 hlx_2
        have hlx_3 := Nat.lt_of_lt_of_le hlx_2 hb3.size
        have hcy_3 := cell_bel hcy_2 hb3 hly_2
        have hly_3 := Nat.lt_of_lt_of_le hly_2 hb3.size
        clear hK2 hcd_2 hld_2 hcs_2 hls_2 hcx_2 hlx_2 hcy_2 hly_2 hb3 hF3 hh3
        go_upto_region 8 with (refine wpList_blk_yes (t := 46) (T := 46) (by rfl) rfl rfl Tryd.underlying46 rfl (by kernel_rfl) hcd_3 ?_)
        have hK4 := bal hK3 hK3.size (.cells #[.int .i64 16, .int .i64 24, .int .i64 32] 3)
        have hcd_4 := hcd_3.alloc (.cells #[.int .i64 16, .int .i64 24, .int .i64 32] 3)
        have hld_4 := Nat.lt_of_lt_of_le hld_3 (al_le v3 (.cells #[.int .i64 16, .int .i64 24, .int .i64 32] 3))
        have hcs_4 := cell_al hcs_3 hls_3 (.cells #[.int .i64 16, .int .i64 24, .int .i64 32] 3)
        have hls_4 := Nat.lt_of_lt_of_le hls_3 (al_le v3 (.cells #[.int .i64 16, .int .i64 24, .int .i64 32] 3))
        have hcx_4 := cell_al hcx_3 hlx_3 (.cells #[.int .i64 16, .int .i64 24, .int .i64 32] 3)
        have hlx_4 := Nat.lt_of_lt_of_le hlx_3 (al_le v3 (.cells #[.int .i64 16, .int .i64 24, .int .i64 32] 3))
        have hcy_4 := cell_al hcy_3 hly_3 (.cells #[.int .i64 16, .int .i64 24, .int .i64 32] 3)
        have hly_4 := Nat.lt_of_lt_of_le hly_3 (al_le v3 (.cells #[.int .i64 16, .int .i64 24, .int .i64 32] 3))
        change Code.wp _ _ _ _ (v3.alloc (.cells #[.int .i64 16, .int .i64 24, .int .i64 32] 3))
        generalize v3.alloc (.cells #[.int .i64 16, .int .i64 24, .int .i64 32] 3) = v4 at hK4 hcd_4 hld_4 hcs_4 hls_4 hcx_4 hlx_4 hcy_4 hly_4 ⊢
        clear hK3 hcd_3 hld_3 hcs_3 hls_3 hcx_3 hlx_3 hcy_3 hly_3
        go_wp2_with (refine wpList_blk_yes (t := 46) (T := 46) (by rfl) rfl rfl Tryd.underlying46 rfl (by kernel_rfl) hcd_4 ?_)
        (with_reducible refine (tw_o 24 seed d xl As Ax ns cs nx cx 0 v4 hd (hs.bel hK4) hns (by omega) hbs (hx.bel hK4) hnx (by omega) hbx (by omega) (hKT.bel hK4) hmT).mono ?_)
        rintro e v5 ⟨A5, c5, rfl, hF5, hh5, hb5⟩
        have hK5 := bnx hK4 hb5 hK4.size
        have hcd_5 := hcd_4.below hb5 hld_4
        have hld_5 := Nat.lt_of_lt_of_le hld_4 hb5.size
        have hcs_5 := cell_bel hcs_4 hb5 hls_4
        have hls_5 := Nat.lt_of_lt_of_le hls_4 hb5.size
        have hcx_5 := cell_bel hcx_4 hb5 hlx_4
        have hlx_5 := Nat.lt_of_lt_of_le hlx_4 hb5.size
        have hcy_5 := cell_bel hcy_4 hb5 hly_4
        have hly_5 := Nat.lt_of_lt_of_le hly_4 hb5.size
        clear hK4 hcd_4 hld_4 hcs_4 hls_4 hcx_4 hlx_4 hcy_4 hly_4 hb5 hF5 hh5
        go_wp2_with (refine wpList_blk_yes (t := 46) (T := 46) (by rfl) rfl rfl Tryd.underlying46 rfl (by kernel_rfl) hcd_5 ?_)
        go_ret
        exact ⟨rfl, hK5⟩
    · have hkI : (kn : Int) % 3 = 2 := by omega
      clear hk3
      have hmF : (fO seed d xl).length = 0 := fO_no _ _ _ (by omega)
      have hmH : (hO seed d xl yl).length = 0 := hO_no _ _ _ _ (by omega)
      have hmT : (twO 32 seed d xl).length = 0 := twO_no _ _ _ _ (by omega)
      go_wp2_with (refine wpList_blk_yes (t := 46) (T := 46) (by rfl) rfl rfl Tryd.underlying46 rfl (by kernel_rfl) hcd_1 ?_)
      (with_reducible refine (f_o seed d xl As Ax ns cs nx cx 0 v1 hd (hs.bel hK1) hns (by omega) hbs (hx.bel hK1) hnx (by omega) hbx (hS.below hK1 (Nat.le_refl _)) hmF).mono ?_)
      rintro e v2 ⟨A2, c2, rfl, hF2, hh2, hb2⟩
      have hK2 := bnx hK1 hb2 hK1.size
      have hcd_2 := hcd_1.below hb2 hld_1
      have hld_2 := Nat.lt_of_lt_of_le hld_1 hb2.size
      have hcs_2 := cell_bel hcs_1 hb2 hls_1
      have hls_2 := Nat.lt_of_lt_of_le hls_1 hb2.size
      have hcx_2 := cell_bel hcx_1 hb2 hlx_1
      have hlx_2 := Nat.lt_of_lt_of_le hlx_1 hb2.size
      have hcy_2 := cell_bel hcy_1 hb2 hly_1
      have hly_2 := Nat.lt_of_lt_of_le hly_1 hb2.size
      clear hK1 hcd_1 hld_1 hcs_1 hls_1 hcx_1 hlx_1 hcy_1 hly_1 hb2 hF2 hh2
      go_wp2_with (refine wpList_blk_yes (t := 46) (T := 46) (by rfl) rfl rfl Tryd.underlying46 rfl (by kernel_rfl) hcd_2 ?_)
      (with_reducible refine (h_o seed d xl yl As Ax Ay ns cs nx cx ny cy 0 v2 hd (hs.bel hK2) hns (by omega) hbs (hx.bel hK2) hnx (by omega) hbx (hy.bel hK2) hny (by omega) hby (hS.below hK2 (Nat.le_refl _)) hmH).mono ?_)
      rintro e v3 ⟨A3, c3, rfl, hF3, hh3, hb3⟩
      have hK3 := bnx hK2 hb3 hK2.size
      have hcd_3 := hcd_2.below hb3 hld_2
      have hld_3 := Nat.lt_of_lt_of_le hld_2 hb3.size
      have hcs_3 := cell_bel hcs_2 hb3 hls_2
      have hls_3 := Nat.lt_of_lt_of_le hls_2 hb3.size
      have hcx_3 := cell_bel hcx_2 hb3 hlx_2
      have hlx_3 := Nat.lt_of_lt_of_le hlx_2 hb3.size
      have hcy_3 := cell_bel hcy_2 hb3 hly_2
      have hly_3 := Nat.lt_of_lt_of_le hly_2 hb3.size
      clear hK2 hcd_2 hld_2 hcs_2 hls_2 hcx_2 hlx_2 hcy_2 hly_2 hb3 hF3 hh3
      go_upto_region 8 with (refine wpList_blk_yes (t := 46) (T := 46) (by rfl) rfl rfl Tryd.underlying46 rfl (by kernel_rfl) hcd_3 ?_)
      have hK4 := bal hK3 hK3.size (.cells #[.int .i64 16, .int .i64 24, .int .i64 32] 3)
      have hcd_4 := hcd_3.alloc (.cells #[.int .i64 16, .int .i64 24, .int .i64 32] 3)
      have hld_4 := Nat.lt_of_lt_of_le hld_3 (al_le v3 (.cells #[.int .i64 16, .int .i64 24, .int .i64 32] 3))
      have hcs_4 := cell_al hcs_3 hls_3 (.cells #[.int .i64 16, .int .i64 24, .int .i64 32] 3)
      have hls_4 := Nat.lt_of_lt_of_le hls_3 (al_le v3 (.cells #[.int .i64 16, .int .i64 24, .int .i64 32] 3))
      have hcx_4 := cell_al hcx_3 hlx_3 (.cells #[.int .i64 16, .int .i64 24, .int .i64 32] 3)
      have hlx_4 := Nat.lt_of_lt_of_le hlx_3 (al_le v3 (.cells #[.int .i64 16, .int .i64 24, .int .i64 32] 3))
      have hcy_4 := cell_al hcy_3 hly_3 (.cells #[.int .i64 16, .int .i64 24, .int .i64 32] 3)
      have hly_4 := Nat.lt_of_lt_of_le hly_3 (al_le v3 (.cells #[.int .i64 16, .int .i64 24, .int .i64 32] 3))
      change Code.wp _ _ _ _ (v3.alloc (.cells #[.int .i64 16, .int .i64 24, .int .i64 32] 3))
      generalize v3.alloc (.cells #[.int .i64 16, .int .i64 24, .int .i64 32] 3) = v4 at hK4 hcd_4 hld_4 hcs_4 hls_4 hcx_4 hlx_4 hcy_4 hly_4 ⊢
      clear hK3 hcd_3 hld_3 hcs_3 hls_3 hcx_3 hlx_3 hcy_3 hly_3
      go_wp2_with (refine wpList_blk_yes (t := 46) (T := 46) (by rfl) rfl rfl Tryd.underlying46 rfl (by kernel_rfl) hcd_4 ?_)
      (with_reducible refine (tw_o 32 seed d xl As Ax ns cs nx cx 0 v4 hd (hs.bel hK4) hns (by omega) hbs (hx.bel hK4) hnx (by omega) hbx (by omega) (hKT.bel hK4) hmT).mono ?_)
      rintro e v5 ⟨A5, c5, rfl, hF5, hh5, hb5⟩
      have hK5 := bnx hK4 hb5 hK4.size
      have hcd_5 := hcd_4.below hb5 hld_4
      have hld_5 := Nat.lt_of_lt_of_le hld_4 hb5.size
      have hcs_5 := cell_bel hcs_4 hb5 hls_4
      have hls_5 := Nat.lt_of_lt_of_le hls_4 hb5.size
      have hcx_5 := cell_bel hcx_4 hb5 hlx_4
      have hlx_5 := Nat.lt_of_lt_of_le hlx_4 hb5.size
      have hcy_5 := cell_bel hcy_4 hb5 hly_4
      have hly_5 := Nat.lt_of_lt_of_le hly_4 hb5.size
      clear hK4 hcd_4 hld_4 hcs_4 hls_4 hcx_4 hlx_4 hcy_4 hly_4 hb5 hF5 hh5
      go_wp2_with (refine wpList_blk_yes (t := 46) (T := 46) (by rfl) rfl rfl Tryd.underlying46 rfl (by kernel_rfl) hcd_5 ?_)
      go_ret
      exact ⟨rfl, hK5⟩
end Go.Proofs.YtfaonieaagepjaaDoor
