/- MacSums, walked. Conditions: what is read reads as bytes; the tables. -/
import Derived.Test.YteidkdpfjponfaaDoorM6F
namespace Go.Proofs.YteidkdpfjponfaaDoor
open Go.RowKit
set_option linter.unusedVariables false
set_option linter.unusedSimpArgs false
theorem sumK_len_0 (l : List Int) : (sumK 0 l).length = 32 := sumK_len 0 l
theorem sumK_len_1 (l : List Int) : (sumK 1 l).length = 64 := sumK_len 1 l
set_option maxRecDepth 100000 in
set_option maxHeartbeats 4000000 in
theorem macSums_walk (k m : Int) (key l : List Int) (A A' : Option Addr) (c c' : Nat) (w : World) (hk : Rd w w.heap.size .u8 A key) (hkc : key.length ≤ c) (hkm : c ≤ 9223372036854775807) (hkb : Bys key) (hr : Rd w w.heap.size .u8 A' l) (hc : l.length ≤ c') (hcm : c' ≤ 9223372036854775807) (hb : Bys l) (hT : MTb w) :
    Calls Tryd.prog 9 #[.int .i64 k, .slice A key.length c, .agg #[.slice A' l.length c', .int .i64 m]] w fun e w' => e = .returned (.bool true) ∧ Below w.heap.size w w' := by
  obtain ⟨n, hkn⟩ : ∃ n, key.length = n := ⟨_, rfl⟩
  obtain ⟨n', hn⟩ : ∃ n, l.length = n := ⟨_, rfl⟩
  rw [hkn] at hkc ⊢
  rw [hn] at hc ⊢
  have hmx : (200000000 : Nat) ≤ maxLen := by decide
  have hX := Blk.new w 44 #[.slice A' n' c', .int .i64 m]
  have hKx := (Below.refl w.heap.size w).alloc (Nat.le_refl _) (.cells #[.slice A' n' c', .int .i64 m] 44)
  have hlx := hX.lt
  go_enter Tryd.func9, Tryd.ntmps9
  go_upto_region 1 with fail
  change Code.wp _ _ _ _ (w.alloc (.cells #[.slice A' n' c', .int .i64 m] 44))
  have hx0 := hX.cell 0 _ rfl
  have hx1 := hX.cell 1 _ rfl
  generalize w.alloc (.cells #[.slice A' n' c', .int .i64 m] 44) = w0 at hKx hlx hx0 hx1 ⊢
  clear hX
  go_wp2_with fail
  (with_reducible refine (awake06_any w0 (hT.below hKx (Nat.le_refl _))).mono ?_)
  rintro e w1 ⟨rfl, hb1⟩
  have hK1 := bnx hKx hb1 hKx.size
  have hy0 := cell_bel hx0 hb1 hlx
  have hy1 := cell_bel hx1 hb1 hlx
  clear hx0 hx1 hb1 hKx hlx
  by_cases hg1 : 1000 < n
  · have hg1I : (1000 : Int) < (n : Int) := by omega
    go_wp2_with fail
    go_ret
    exact ⟨rfl, hK1⟩
  have hg1I : ¬ (1000 : Int) < (n : Int) := by omega
  by_cases hg2 : 1000 < n'
  · have hg2I : (1000 : Int) < (n' : Int) := by omega
    go_wp2_with fail
    go_ret
    exact ⟨rfl, hK1⟩
  have hg2I : ¬ (1000 : Int) < (n' : Int) := by omega
  by_cases hg3 : 1000 < m ∧ m ≤ 65536
  · obtain ⟨hg3a, hg3b⟩ := hg3
    go_wp2_with fail
    go_ret
    exact ⟨rfl, hK1⟩
  have hOe := Own.lit (b := w1.heap.size) (e := 5) (k := .u8) w1 [] (by omega) (Nat.zero_le _)
  have hRe := (hk.bel hK1).alloc (Nat.le_refl _) (.cells #[] 5)
  have hKe := bal hK1 hK1.size (.cells #[] 5)
  have hg4 : (m ≤ 1000 ∧ ¬ 1000 < m) ∨ (1000 < m ∧ ¬ m ≤ 65536) := by omega
  have hfin : ∀ (wa : World) (Ao : Option Addr) (co : Nat), Own wa w1.heap.size 5 .u8 (.slice Ao n co) key → Below w.heap.size w wa → True := fun _ _ _ _ _ => trivial
  clear hfin hg3
  rcases hg4 with ⟨hm1, hm1'⟩ | ⟨hm1, hm1'⟩
  · have hm2 : m ≤ 65536 := by omega
    go_upto_region 8 with (at_builtin; refine wpList_app rfl _ _ 22 5 .u8 1 rfl Tryd.underlying22 inf_u8 hOe hRe rfl rfl hkn key rfl n hkn (by omega) (by omega) (by simp) ?_; intro Ao co va hOo hgo hfo)
    have hKa : Below w.heap.size w va := (Kept.grew (Kept.of_below (S := fun _ => False) hKe) hOe hgo (by have := hK1.size; omega) (by simp; have := hK1.size; omega)).below
    have hRo := hOo.rd
    have hBo := Below.refl va.heap.size va
    have hco : n ≤ co := by have := hOo.len.2; rw [hkn] at this; exact this
    clear hOo hgo hfo hOe hRe hKe hK1 hy0 hy1
    have hmm : m < 0 ∨ (0 ≤ m ∧ m ≤ 1000) := by omega
    rcases hmm with hbad' | ⟨hm0, -⟩
    · have hbad : m < 0 ∨ 65536 < m := .inl hbad'
      by_cases h0 : k = 0
      · subst h0
        go_wp2_with fail
        (with_reducible refine (sizes_0 va).mono ?_)
        rintro e v11 ⟨rfl, hb11⟩
        have hK11 := bnx hKa hb11 hKa.size
        have hBo_11 := bnx hBo hb11 hBo.size
        clear hKa hBo hb11
        go_wp2_with fail
        (with_reducible refine (rsizes_0 v11).mono ?_)
        rintro e v12 ⟨rfl, hw12⟩
        subst v12
        go_wp2_with fail
        (with_reducible refine (sums_0 l A' n' c' v11 (hr.bel hK11) hn (by omega) hc hb (hT.below hK11 (Nat.le_refl _))).mono ?_)
        rintro e v13 ⟨A13, c13, rfl, hF13, hb13⟩
        have hK13 := bnx hK11 hb13 hK11.size
        have hBo_13 := bnx hBo_11 hb13 hBo_11.size
        have hRX := hF13.rd
        have hBX_13 := Below.refl v13.heap.size v13
        clear hK11 hBo_11 hb13 hF13
        go_wp2_with fail
        (with_reducible refine (rsums_0 l A' n' c' v13.heap.size v13 (hr.bel hK13) (Nat.le_refl _) hn (by omega) hb).mono ?_)
        rintro e v14 ⟨A14, c14, rfl, hF14, hb14⟩
        have hK14 := bnx hK13 hb14 hK13.size
        have hBo_14 := bnx hBo_13 hb14 hBo_13.size
        have hBX_14 := bnx hBX_13 hb14 hBX_13.size
        have hRZ := hF14.rd
        have hBZ_14 := Below.refl v14.heap.size v14
        clear hK13 hBo_13 hBX_13 hb14 hF14
        go_wp2_with fail
        (with_reducible refine (same_is v14 A13 A14 (sumK 0 l) 32 c13 c14 v14.heap.size v14.heap.size (hRX.bel hBX_14) (hRZ.bel hBZ_14) (sumK_len_0 l) (by omega)).mono ?_)
        rintro e v15 ⟨rfl, q15, rfl⟩
        have hK15 := bdr hK14 q15
        have hBo_15 := bdr hBo_14 q15
        have hBX_15 := bdr hBX_14 q15
        have hBZ_15 := bdr hBZ_14 q15
        generalize v14.drewN q15 = v15 at hK15 hBo_15 hBX_15 hBZ_15 ⊢
        clear hK14 hBo_14 hBX_14 hBZ_14
        clear hRX hRZ hBX_15 hBZ_15
        go_wp2_with fail
        (with_reducible refine (mac_0 key l Ao A' n co n' c' v15 (hRo.bel hBo_15) hkn (by omega) hco hkb (hr.bel hK15) hn (by omega) hc hb (hT.below hK15 (Nat.le_refl _))).mono ?_)
        rintro e v16 ⟨A16, c16, rfl, hF16, hb16⟩
        have hK16 := bnx hK15 hb16 hK15.size
        have hBo_16 := bnx hBo_15 hb16 hBo_15.size
        have hRX := hF16.rd
        have hBX_16 := Below.refl v16.heap.size v16
        clear hK15 hBo_15 hb16 hF16
        go_wp2_with fail
        (with_reducible refine (rmac_0 key l A A' n c n' c' v16 (hk.bel hK16) hkn (by omega) hkb (hr.bel hK16) hn (by omega) hb).mono ?_)
        rintro e v17 ⟨A17, c17, rfl, hF17, hb17⟩
        have hK17 := bnx hK16 hb17 hK16.size
        have hBo_17 := bnx hBo_16 hb17 hBo_16.size
        have hBX_17 := bnx hBX_16 hb17 hBX_16.size
        have hRZ := hF17.rd
        have hBZ_17 := Below.refl v17.heap.size v17
        clear hK16 hBo_16 hBX_16 hb17 hF17
        go_wp2_with fail
        (with_reducible refine (same_is v17 A16 A17 (macK 0 key l) 32 c16 c17 v17.heap.size v17.heap.size (hRX.bel hBX_17) (hRZ.bel hBZ_17) (macK_len_0 key l) (by omega)).mono ?_)
        rintro e v18 ⟨rfl, q18, rfl⟩
        have hK18 := bdr hK17 q18
        have hBo_18 := bdr hBo_17 q18
        have hBX_18 := bdr hBX_17 q18
        have hBZ_18 := bdr hBZ_17 q18
        generalize v17.drewN q18 = v18 at hK18 hBo_18 hBX_18 hBZ_18 ⊢
        clear hK17 hBo_17 hBX_17 hBZ_17
        clear hRX hRZ hBX_18 hBZ_18
        go_wp2_with fail
        (with_reducible refine (maskbad_0 m _ v18 hbad).mono ?_)
        rintro e v19 ⟨rfl, hb19⟩
        have hK19 := bnx hK18 hb19 hK18.size
        have hBo_19 := bnx hBo_18 hb19 hBo_18.size
        clear hK18 hBo_18 hb19
        go_wp2_with fail
        (with_reducible refine (rmaskbad_0 m _ v19 hbad).mono ?_)
        rintro e v20 ⟨rfl, hb20⟩
        have hK20 := bnx hK19 hb20 hK19.size
        have hBo_20 := bnx hBo_19 hb20 hBo_19.size
        clear hK19 hBo_19 hb20
        go_wp2_with fail
        (with_reducible refine (same_is v20 none none [] 0 0 0 v20.heap.size v20.heap.size Rd.nil Rd.nil rfl (by omega)).mono ?_)
        rintro e v21 ⟨rfl, q21, rfl⟩
        have hK21 := bdr hK20 q21
        have hBo_21 := bdr hBo_20 q21
        generalize v20.drewN q21 = v21 at hK21 hBo_21 ⊢
        clear hK20 hBo_20
        go_wp2_with fail
        (with_reducible refine (same_is v21 Ao A key n co c v21.heap.size v21.heap.size (hRo.bel hBo_21) (hk.bel hK21) hkn (by omega)).mono ?_)
        rintro e v22 ⟨rfl, q22, rfl⟩
        have hK22 := bdr hK21 q22
        have hBo_22 := bdr hBo_21 q22
        generalize v21.drewN q22 = v22 at hK22 hBo_22 ⊢
        clear hK21 hBo_21
        clear hRo hk hr hBo_22
        go_wp2_with fail
        go_ret
        exact ⟨rfl, hK22⟩
      by_cases h1 : k = 1
      · subst h1
        go_wp2_with fail
        (with_reducible refine (sizes_1 va).mono ?_)
        rintro e v11 ⟨rfl, hb11⟩
        have hK11 := bnx hKa hb11 hKa.size
        have hBo_11 := bnx hBo hb11 hBo.size
        clear hKa hBo hb11
        go_wp2_with fail
        (with_reducible refine (rsizes_1 v11).mono ?_)
        rintro e v12 ⟨rfl, hw12⟩
        subst v12
        go_wp2_with fail
        (with_reducible refine (sums_1 l A' n' c' v11 (hr.bel hK11) hn (by omega) hc hb (hT.below hK11 (Nat.le_refl _))).mono ?_)
        rintro e v13 ⟨A13, c13, rfl, hF13, hb13⟩
        have hK13 := bnx hK11 hb13 hK11.size
        have hBo_13 := bnx hBo_11 hb13 hBo_11.size
        have hRX := hF13.rd
        have hBX_13 := Below.refl v13.heap.size v13
        clear hK11 hBo_11 hb13 hF13
        go_wp2_with fail
        (with_reducible refine (rsums_1 l A' n' c' v13.heap.size v13 (hr.bel hK13) (Nat.le_refl _) hn (by omega) hb).mono ?_)
        rintro e v14 ⟨A14, c14, rfl, hF14, hb14⟩
        have hK14 := bnx hK13 hb14 hK13.size
        have hBo_14 := bnx hBo_13 hb14 hBo_13.size
        have hBX_14 := bnx hBX_13 hb14 hBX_13.size
        have hRZ := hF14.rd
        have hBZ_14 := Below.refl v14.heap.size v14
        clear hK13 hBo_13 hBX_13 hb14 hF14
        go_wp2_with fail
        (with_reducible refine (same_is v14 A13 A14 (sumK 1 l) 64 c13 c14 v14.heap.size v14.heap.size (hRX.bel hBX_14) (hRZ.bel hBZ_14) (sumK_len_1 l) (by omega)).mono ?_)
        rintro e v15 ⟨rfl, q15, rfl⟩
        have hK15 := bdr hK14 q15
        have hBo_15 := bdr hBo_14 q15
        have hBX_15 := bdr hBX_14 q15
        have hBZ_15 := bdr hBZ_14 q15
        generalize v14.drewN q15 = v15 at hK15 hBo_15 hBX_15 hBZ_15 ⊢
        clear hK14 hBo_14 hBX_14 hBZ_14
        clear hRX hRZ hBX_15 hBZ_15
        go_wp2_with fail
        (with_reducible refine (mac_1 key l Ao A' n co n' c' v15 (hRo.bel hBo_15) hkn (by omega) hco hkb (hr.bel hK15) hn (by omega) hc hb (hT.below hK15 (Nat.le_refl _))).mono ?_)
        rintro e v16 ⟨A16, c16, rfl, hF16, hb16⟩
        have hK16 := bnx hK15 hb16 hK15.size
        have hBo_16 := bnx hBo_15 hb16 hBo_15.size
        have hRX := hF16.rd
        have hBX_16 := Below.refl v16.heap.size v16
        clear hK15 hBo_15 hb16 hF16
        go_wp2_with fail
        (with_reducible refine (rmac_1 key l A A' n c n' c' v16 (hk.bel hK16) hkn (by omega) hkb (hr.bel hK16) hn (by omega) hb).mono ?_)
        rintro e v17 ⟨A17, c17, rfl, hF17, hb17⟩
        have hK17 := bnx hK16 hb17 hK16.size
        have hBo_17 := bnx hBo_16 hb17 hBo_16.size
        have hBX_17 := bnx hBX_16 hb17 hBX_16.size
        have hRZ := hF17.rd
        have hBZ_17 := Below.refl v17.heap.size v17
        clear hK16 hBo_16 hBX_16 hb17 hF17
        go_wp2_with fail
        (with_reducible refine (same_is v17 A16 A17 (macK 1 key l) 64 c16 c17 v17.heap.size v17.heap.size (hRX.bel hBX_17) (hRZ.bel hBZ_17) (macK_len_1 key l) (by omega)).mono ?_)
        rintro e v18 ⟨rfl, q18, rfl⟩
        have hK18 := bdr hK17 q18
        have hBo_18 := bdr hBo_17 q18
        have hBX_18 := bdr hBX_17 q18
        have hBZ_18 := bdr hBZ_17 q18
        generalize v17.drewN q18 = v18 at hK18 hBo_18 hBX_18 hBZ_18 ⊢
        clear hK17 hBo_17 hBX_17 hBZ_17
        clear hRX hRZ hBX_18 hBZ_18
        go_wp2_with fail
        (with_reducible refine (maskbad_1 m _ v18 hbad).mono ?_)
        rintro e v19 ⟨rfl, hb19⟩
        have hK19 := bnx hK18 hb19 hK18.size
        have hBo_19 := bnx hBo_18 hb19 hBo_18.size
        clear hK18 hBo_18 hb19
        go_wp2_with fail
        (with_reducible refine (rmaskbad_1 m _ v19 hbad).mono ?_)
        rintro e v20 ⟨rfl, hb20⟩
        have hK20 := bnx hK19 hb20 hK19.size
        have hBo_20 := bnx hBo_19 hb20 hBo_19.size
        clear hK19 hBo_19 hb20
        go_wp2_with fail
        (with_reducible refine (same_is v20 none none [] 0 0 0 v20.heap.size v20.heap.size Rd.nil Rd.nil rfl (by omega)).mono ?_)
        rintro e v21 ⟨rfl, q21, rfl⟩
        have hK21 := bdr hK20 q21
        have hBo_21 := bdr hBo_20 q21
        generalize v20.drewN q21 = v21 at hK21 hBo_21 ⊢
        clear hK20 hBo_20
        go_wp2_with fail
        (with_reducible refine (same_is v21 Ao A key n co c v21.heap.size v21.heap.size (hRo.bel hBo_21) (hk.bel hK21) hkn (by omega)).mono ?_)
        rintro e v22 ⟨rfl, q22, rfl⟩
        have hK22 := bdr hK21 q22
        have hBo_22 := bdr hBo_21 q22
        generalize v21.drewN q22 = v22 at hK22 hBo_22 ⊢
        clear hK21 hBo_21
        clear hRo hk hr hBo_22
        go_wp2_with fail
        go_ret
        exact ⟨rfl, hK22⟩
      have hko : k < 0 ∨ 2 ≤ k := by omega
      go_wp2_with fail
      (with_reducible refine (sizes_no k va hko).mono ?_)
      rintro e v11 ⟨rfl, hb11⟩
      have hK11 := bnx hKa hb11 hKa.size
      have hBo_11 := bnx hBo hb11 hBo.size
      clear hKa hBo hb11
      go_wp2_with fail
      (with_reducible refine (rsizes_no k v11 h0 h1).mono ?_)
      rintro e v12 ⟨rfl, hw12⟩
      subst v12
      go_wp2_with fail
      (with_reducible refine (sums_no k _ v11 hko).mono ?_)
      rintro e v13 ⟨rfl, hb13⟩
      have hK13 := bnx hK11 hb13 hK11.size
      have hBo_13 := bnx hBo_11 hb13 hBo_11.size
      clear hK11 hBo_11 hb13
      go_wp2_with fail
      (with_reducible refine (rsums_no k _ v13 h0 h1).mono ?_)
      rintro e v14 ⟨rfl, hb14⟩
      have hK14 := bnx hK13 hb14 hK13.size
      have hBo_14 := bnx hBo_13 hb14 hBo_13.size
      clear hK13 hBo_13 hb14
      go_wp2_with fail
      (with_reducible refine (same_is v14 none none [] 0 0 0 v14.heap.size v14.heap.size Rd.nil Rd.nil rfl (by omega)).mono ?_)
      rintro e v15 ⟨rfl, q15, rfl⟩
      have hK15 := bdr hK14 q15
      have hBo_15 := bdr hBo_14 q15
      generalize v14.drewN q15 = v15 at hK15 hBo_15 ⊢
      clear hK14 hBo_14
      go_wp2_with fail
      (with_reducible refine (mac_no k _ _ v15 hko).mono ?_)
      rintro e v16 ⟨rfl, hb16⟩
      have hK16 := bnx hK15 hb16 hK15.size
      have hBo_16 := bnx hBo_15 hb16 hBo_15.size
      clear hK15 hBo_15 hb16
      go_wp2_with fail
      (with_reducible refine (rmac_no k _ _ v16 h0 h1).mono ?_)
      rintro e v17 ⟨rfl, hb17⟩
      have hK17 := bnx hK16 hb17 hK16.size
      have hBo_17 := bnx hBo_16 hb17 hBo_16.size
      clear hK16 hBo_16 hb17
      go_wp2_with fail
      (with_reducible refine (same_is v17 none none [] 0 0 0 v17.heap.size v17.heap.size Rd.nil Rd.nil rfl (by omega)).mono ?_)
      rintro e v18 ⟨rfl, q18, rfl⟩
      have hK18 := bdr hK17 q18
      have hBo_18 := bdr hBo_17 q18
      generalize v17.drewN q18 = v18 at hK18 hBo_18 ⊢
      clear hK17 hBo_17
      go_wp2_with fail
      (with_reducible refine (mask_no k m _ v18 hko).mono ?_)
      rintro e v19 ⟨rfl, hb19⟩
      have hK19 := bnx hK18 hb19 hK18.size
      have hBo_19 := bnx hBo_18 hb19 hBo_18.size
      clear hK18 hBo_18 hb19
      go_wp2_with fail
      (with_reducible refine (rmask_no k m _ v19 h0 h1).mono ?_)
      rintro e v20 ⟨rfl, hb20⟩
      have hK20 := bnx hK19 hb20 hK19.size
      have hBo_20 := bnx hBo_19 hb20 hBo_19.size
      clear hK19 hBo_19 hb20
      go_wp2_with fail
      (with_reducible refine (same_is v20 none none [] 0 0 0 v20.heap.size v20.heap.size Rd.nil Rd.nil rfl (by omega)).mono ?_)
      rintro e v21 ⟨rfl, q21, rfl⟩
      have hK21 := bdr hK20 q21
      have hBo_21 := bdr hBo_20 q21
      generalize v20.drewN q21 = v21 at hK21 hBo_21 ⊢
      clear hK20 hBo_20
      go_wp2_with fail
      (with_reducible refine (same_is v21 Ao A key n co c v21.heap.size v21.heap.size (hRo.bel hBo_21) (hk.bel hK21) hkn (by omega)).mono ?_)
      rintro e v22 ⟨rfl, q22, rfl⟩
      have hK22 := bdr hK21 q22
      have hBo_22 := bdr hBo_21 q22
      generalize v21.drewN q22 = v22 at hK22 hBo_22 ⊢
      clear hK21 hBo_21
      clear hRo hk hr hBo_22
      go_wp2_with fail
      go_ret
      exact ⟨rfl, hK22⟩
    · obtain ⟨mm, rfl⟩ : ∃ q : Nat, m = q := ⟨m.toNat, by omega⟩
      by_cases h0 : k = 0
      · subst h0
        go_wp2_with fail
        (with_reducible refine (sizes_0 va).mono ?_)
        rintro e v11 ⟨rfl, hb11⟩
        have hK11 := bnx hKa hb11 hKa.size
        have hBo_11 := bnx hBo hb11 hBo.size
        clear hKa hBo hb11
        go_wp2_with fail
        (with_reducible refine (rsizes_0 v11).mono ?_)
        rintro e v12 ⟨rfl, hw12⟩
        subst v12
        go_wp2_with fail
        (with_reducible refine (sums_0 l A' n' c' v11 (hr.bel hK11) hn (by omega) hc hb (hT.below hK11 (Nat.le_refl _))).mono ?_)
        rintro e v13 ⟨A13, c13, rfl, hF13, hb13⟩
        have hK13 := bnx hK11 hb13 hK11.size
        have hBo_13 := bnx hBo_11 hb13 hBo_11.size
        have hRX := hF13.rd
        have hBX_13 := Below.refl v13.heap.size v13
        clear hK11 hBo_11 hb13 hF13
        go_wp2_with fail
        (with_reducible refine (rsums_0 l A' n' c' v13.heap.size v13 (hr.bel hK13) (Nat.le_refl _) hn (by omega) hb).mono ?_)
        rintro e v14 ⟨A14, c14, rfl, hF14, hb14⟩
        have hK14 := bnx hK13 hb14 hK13.size
        have hBo_14 := bnx hBo_13 hb14 hBo_13.size
        have hBX_14 := bnx hBX_13 hb14 hBX_13.size
        have hRZ := hF14.rd
        have hBZ_14 := Below.refl v14.heap.size v14
        clear hK13 hBo_13 hBX_13 hb14 hF14
        go_wp2_with fail
        (with_reducible refine (same_is v14 A13 A14 (sumK 0 l) 32 c13 c14 v14.heap.size v14.heap.size (hRX.bel hBX_14) (hRZ.bel hBZ_14) (sumK_len_0 l) (by omega)).mono ?_)
        rintro e v15 ⟨rfl, q15, rfl⟩
        have hK15 := bdr hK14 q15
        have hBo_15 := bdr hBo_14 q15
        have hBX_15 := bdr hBX_14 q15
        have hBZ_15 := bdr hBZ_14 q15
        generalize v14.drewN q15 = v15 at hK15 hBo_15 hBX_15 hBZ_15 ⊢
        clear hK14 hBo_14 hBX_14 hBZ_14
        clear hRX hRZ hBX_15 hBZ_15
        go_wp2_with fail
        (with_reducible refine (mac_0 key l Ao A' n co n' c' v15 (hRo.bel hBo_15) hkn (by omega) hco hkb (hr.bel hK15) hn (by omega) hc hb (hT.below hK15 (Nat.le_refl _))).mono ?_)
        rintro e v16 ⟨A16, c16, rfl, hF16, hb16⟩
        have hK16 := bnx hK15 hb16 hK15.size
        have hBo_16 := bnx hBo_15 hb16 hBo_15.size
        have hRX := hF16.rd
        have hBX_16 := Below.refl v16.heap.size v16
        clear hK15 hBo_15 hb16 hF16
        go_wp2_with fail
        (with_reducible refine (rmac_0 key l A A' n c n' c' v16 (hk.bel hK16) hkn (by omega) hkb (hr.bel hK16) hn (by omega) hb).mono ?_)
        rintro e v17 ⟨A17, c17, rfl, hF17, hb17⟩
        have hK17 := bnx hK16 hb17 hK16.size
        have hBo_17 := bnx hBo_16 hb17 hBo_16.size
        have hBX_17 := bnx hBX_16 hb17 hBX_16.size
        have hRZ := hF17.rd
        have hBZ_17 := Below.refl v17.heap.size v17
        clear hK16 hBo_16 hBX_16 hb17 hF17
        go_wp2_with fail
        (with_reducible refine (same_is v17 A16 A17 (macK 0 key l) 32 c16 c17 v17.heap.size v17.heap.size (hRX.bel hBX_17) (hRZ.bel hBZ_17) (macK_len_0 key l) (by omega)).mono ?_)
        rintro e v18 ⟨rfl, q18, rfl⟩
        have hK18 := bdr hK17 q18
        have hBo_18 := bdr hBo_17 q18
        have hBX_18 := bdr hBX_17 q18
        have hBZ_18 := bdr hBZ_17 q18
        generalize v17.drewN q18 = v18 at hK18 hBo_18 hBX_18 hBZ_18 ⊢
        clear hK17 hBo_17 hBX_17 hBZ_17
        clear hRX hRZ hBX_18 hBZ_18
        go_wp2_with fail
        (with_reducible refine (mask_0 l A' n' c' mm v18 (hr.bel hK18) hn (by omega) hc hb (hT.below hK18 (Nat.le_refl _)) (by omega)).mono ?_)
        rintro e v19 ⟨A19, c19, rfl, hF19, hb19⟩
        have hK19 := bnx hK18 hb19 hK18.size
        have hBo_19 := bnx hBo_18 hb19 hBo_18.size
        have hRX := hF19.rd
        have hBX_19 := Below.refl v19.heap.size v19
        clear hK18 hBo_18 hb19 hF19
        go_wp2_with fail
        (with_reducible refine (rmask_0 l A' n' c' mm v19 (hr.bel hK19) hn (by omega) hc hb (by omega)).mono ?_)
        rintro e v20 ⟨A20, c20, rfl, hF20, hb20⟩
        have hK20 := bnx hK19 hb20 hK19.size
        have hBo_20 := bnx hBo_19 hb20 hBo_19.size
        have hBX_20 := bnx hBX_19 hb20 hBX_19.size
        have hRZ := hF20.rd
        have hBZ_20 := Below.refl v20.heap.size v20
        clear hK19 hBo_19 hBX_19 hb20 hF20
        go_wp2_with fail
        (with_reducible refine (same_is v20 A19 A20 (maskK 0 l mm) mm c19 c20 v20.heap.size v20.heap.size (hRX.bel hBX_20) (hRZ.bel hBZ_20) (maskK_len_0 l mm) (by omega)).mono ?_)
        rintro e v21 ⟨rfl, q21, rfl⟩
        have hK21 := bdr hK20 q21
        have hBo_21 := bdr hBo_20 q21
        have hBX_21 := bdr hBX_20 q21
        have hBZ_21 := bdr hBZ_20 q21
        generalize v20.drewN q21 = v21 at hK21 hBo_21 hBX_21 hBZ_21 ⊢
        clear hK20 hBo_20 hBX_20 hBZ_20
        clear hRX hRZ hBX_21 hBZ_21
        go_wp2_with fail
        (with_reducible refine (same_is v21 Ao A key n co c v21.heap.size v21.heap.size (hRo.bel hBo_21) (hk.bel hK21) hkn (by omega)).mono ?_)
        rintro e v22 ⟨rfl, q22, rfl⟩
        have hK22 := bdr hK21 q22
        have hBo_22 := bdr hBo_21 q22
        generalize v21.drewN q22 = v22 at hK22 hBo_22 ⊢
        clear hK21 hBo_21
        clear hRo hk hr hBo_22
        go_wp2_with fail
        go_ret
        exact ⟨rfl, hK22⟩
      by_cases h1 : k = 1
      · subst h1
        go_wp2_with fail
        (with_reducible refine (sizes_1 va).mono ?_)
        rintro e v11 ⟨rfl, hb11⟩
        have hK11 := bnx hKa hb11 hKa.size
        have hBo_11 := bnx hBo hb11 hBo.size
        clear hKa hBo hb11
        go_wp2_with fail
        (with_reducible refine (rsizes_1 v11).mono ?_)
        rintro e v12 ⟨rfl, hw12⟩
        subst v12
        go_wp2_with fail
        (with_reducible refine (sums_1 l A' n' c' v11 (hr.bel hK11) hn (by omega) hc hb (hT.below hK11 (Nat.le_refl _))).mono ?_)
        rintro e v13 ⟨A13, c13, rfl, hF13, hb13⟩
        have hK13 := bnx hK11 hb13 hK11.size
        have hBo_13 := bnx hBo_11 hb13 hBo_11.size
        have hRX := hF13.rd
        have hBX_13 := Below.refl v13.heap.size v13
        clear hK11 hBo_11 hb13 hF13
        go_wp2_with fail
        (with_reducible refine (rsums_1 l A' n' c' v13.heap.size v13 (hr.bel hK13) (Nat.le_refl _) hn (by omega) hb).mono ?_)
        rintro e v14 ⟨A14, c14, rfl, hF14, hb14⟩
        have hK14 := bnx hK13 hb14 hK13.size
        have hBo_14 := bnx hBo_13 hb14 hBo_13.size
        have hBX_14 := bnx hBX_13 hb14 hBX_13.size
        have hRZ := hF14.rd
        have hBZ_14 := Below.refl v14.heap.size v14
        clear hK13 hBo_13 hBX_13 hb14 hF14
        go_wp2_with fail
        (with_reducible refine (same_is v14 A13 A14 (sumK 1 l) 64 c13 c14 v14.heap.size v14.heap.size (hRX.bel hBX_14) (hRZ.bel hBZ_14) (sumK_len_1 l) (by omega)).mono ?_)
        rintro e v15 ⟨rfl, q15, rfl⟩
        have hK15 := bdr hK14 q15
        have hBo_15 := bdr hBo_14 q15
        have hBX_15 := bdr hBX_14 q15
        have hBZ_15 := bdr hBZ_14 q15
        generalize v14.drewN q15 = v15 at hK15 hBo_15 hBX_15 hBZ_15 ⊢
        clear hK14 hBo_14 hBX_14 hBZ_14
        clear hRX hRZ hBX_15 hBZ_15
        go_wp2_with fail
        (with_reducible refine (mac_1 key l Ao A' n co n' c' v15 (hRo.bel hBo_15) hkn (by omega) hco hkb (hr.bel hK15) hn (by omega) hc hb (hT.below hK15 (Nat.le_refl _))).mono ?_)
        rintro e v16 ⟨A16, c16, rfl, hF16, hb16⟩
        have hK16 := bnx hK15 hb16 hK15.size
        have hBo_16 := bnx hBo_15 hb16 hBo_15.size
        have hRX := hF16.rd
        have hBX_16 := Below.refl v16.heap.size v16
        clear hK15 hBo_15 hb16 hF16
        go_wp2_with fail
        (with_reducible refine (rmac_1 key l A A' n c n' c' v16 (hk.bel hK16) hkn (by omega) hkb (hr.bel hK16) hn (by omega) hb).mono ?_)
        rintro e v17 ⟨A17, c17, rfl, hF17, hb17⟩
        have hK17 := bnx hK16 hb17 hK16.size
        have hBo_17 := bnx hBo_16 hb17 hBo_16.size
        have hBX_17 := bnx hBX_16 hb17 hBX_16.size
        have hRZ := hF17.rd
        have hBZ_17 := Below.refl v17.heap.size v17
        clear hK16 hBo_16 hBX_16 hb17 hF17
        go_wp2_with fail
        (with_reducible refine (same_is v17 A16 A17 (macK 1 key l) 64 c16 c17 v17.heap.size v17.heap.size (hRX.bel hBX_17) (hRZ.bel hBZ_17) (macK_len_1 key l) (by omega)).mono ?_)
        rintro e v18 ⟨rfl, q18, rfl⟩
        have hK18 := bdr hK17 q18
        have hBo_18 := bdr hBo_17 q18
        have hBX_18 := bdr hBX_17 q18
        have hBZ_18 := bdr hBZ_17 q18
        generalize v17.drewN q18 = v18 at hK18 hBo_18 hBX_18 hBZ_18 ⊢
        clear hK17 hBo_17 hBX_17 hBZ_17
        clear hRX hRZ hBX_18 hBZ_18
        go_wp2_with fail
        (with_reducible refine (mask_1 l A' n' c' mm v18 (hr.bel hK18) hn (by omega) hc hb (hT.below hK18 (Nat.le_refl _)) (by omega)).mono ?_)
        rintro e v19 ⟨A19, c19, rfl, hF19, hb19⟩
        have hK19 := bnx hK18 hb19 hK18.size
        have hBo_19 := bnx hBo_18 hb19 hBo_18.size
        have hRX := hF19.rd
        have hBX_19 := Below.refl v19.heap.size v19
        clear hK18 hBo_18 hb19 hF19
        go_wp2_with fail
        (with_reducible refine (rmask_1 l A' n' c' mm v19 (hr.bel hK19) hn (by omega) hc hb (by omega)).mono ?_)
        rintro e v20 ⟨A20, c20, rfl, hF20, hb20⟩
        have hK20 := bnx hK19 hb20 hK19.size
        have hBo_20 := bnx hBo_19 hb20 hBo_19.size
        have hBX_20 := bnx hBX_19 hb20 hBX_19.size
        have hRZ := hF20.rd
        have hBZ_20 := Below.refl v20.heap.size v20
        clear hK19 hBo_19 hBX_19 hb20 hF20
        go_wp2_with fail
        (with_reducible refine (same_is v20 A19 A20 (maskK 1 l mm) mm c19 c20 v20.heap.size v20.heap.size (hRX.bel hBX_20) (hRZ.bel hBZ_20) (maskK_len_1 l mm) (by omega)).mono ?_)
        rintro e v21 ⟨rfl, q21, rfl⟩
        have hK21 := bdr hK20 q21
        have hBo_21 := bdr hBo_20 q21
        have hBX_21 := bdr hBX_20 q21
        have hBZ_21 := bdr hBZ_20 q21
        generalize v20.drewN q21 = v21 at hK21 hBo_21 hBX_21 hBZ_21 ⊢
        clear hK20 hBo_20 hBX_20 hBZ_20
        clear hRX hRZ hBX_21 hBZ_21
        go_wp2_with fail
        (with_reducible refine (same_is v21 Ao A key n co c v21.heap.size v21.heap.size (hRo.bel hBo_21) (hk.bel hK21) hkn (by omega)).mono ?_)
        rintro e v22 ⟨rfl, q22, rfl⟩
        have hK22 := bdr hK21 q22
        have hBo_22 := bdr hBo_21 q22
        generalize v21.drewN q22 = v22 at hK22 hBo_22 ⊢
        clear hK21 hBo_21
        clear hRo hk hr hBo_22
        go_wp2_with fail
        go_ret
        exact ⟨rfl, hK22⟩
      have hko : k < 0 ∨ 2 ≤ k := by omega
      go_wp2_with fail
      (with_reducible refine (sizes_no k va hko).mono ?_)
      rintro e v11 ⟨rfl, hb11⟩
      have hK11 := bnx hKa hb11 hKa.size
      have hBo_11 := bnx hBo hb11 hBo.size
      clear hKa hBo hb11
      go_wp2_with fail
      (with_reducible refine (rsizes_no k v11 h0 h1).mono ?_)
      rintro e v12 ⟨rfl, hw12⟩
      subst v12
      go_wp2_with fail
      (with_reducible refine (sums_no k _ v11 hko).mono ?_)
      rintro e v13 ⟨rfl, hb13⟩
      have hK13 := bnx hK11 hb13 hK11.size
      have hBo_13 := bnx hBo_11 hb13 hBo_11.size
      clear hK11 hBo_11 hb13
      go_wp2_with fail
      (with_reducible refine (rsums_no k _ v13 h0 h1).mono ?_)
      rintro e v14 ⟨rfl, hb14⟩
      have hK14 := bnx hK13 hb14 hK13.size
      have hBo_14 := bnx hBo_13 hb14 hBo_13.size
      clear hK13 hBo_13 hb14
      go_wp2_with fail
      (with_reducible refine (same_is v14 none none [] 0 0 0 v14.heap.size v14.heap.size Rd.nil Rd.nil rfl (by omega)).mono ?_)
      rintro e v15 ⟨rfl, q15, rfl⟩
      have hK15 := bdr hK14 q15
      have hBo_15 := bdr hBo_14 q15
      generalize v14.drewN q15 = v15 at hK15 hBo_15 ⊢
      clear hK14 hBo_14
      go_wp2_with fail
      (with_reducible refine (mac_no k _ _ v15 hko).mono ?_)
      rintro e v16 ⟨rfl, hb16⟩
      have hK16 := bnx hK15 hb16 hK15.size
      have hBo_16 := bnx hBo_15 hb16 hBo_15.size
      clear hK15 hBo_15 hb16
      go_wp2_with fail
      (with_reducible refine (rmac_no k _ _ v16 h0 h1).mono ?_)
      rintro e v17 ⟨rfl, hb17⟩
      have hK17 := bnx hK16 hb17 hK16.size
      have hBo_17 := bnx hBo_16 hb17 hBo_16.size
      clear hK16 hBo_16 hb17
      go_wp2_with fail
      (with_reducible refine (same_is v17 none none [] 0 0 0 v17.heap.size v17.heap.size Rd.nil Rd.nil rfl (by omega)).mono ?_)
      rintro e v18 ⟨rfl, q18, rfl⟩
      have hK18 := bdr hK17 q18
      have hBo_18 := bdr hBo_17 q18
      generalize v17.drewN q18 = v18 at hK18 hBo_18 ⊢
      clear hK17 hBo_17
      go_wp2_with fail
      (with_reducible refine (mask_no k (mm : Int) _ v18 hko).mono ?_)
      rintro e v19 ⟨rfl, hb19⟩
      have hK19 := bnx hK18 hb19 hK18.size
      have hBo_19 := bnx hBo_18 hb19 hBo_18.size
      clear hK18 hBo_18 hb19
      go_wp2_with fail
      (with_reducible refine (rmask_no k (mm : Int) _ v19 h0 h1).mono ?_)
      rintro e v20 ⟨rfl, hb20⟩
      have hK20 := bnx hK19 hb20 hK19.size
      have hBo_20 := bnx hBo_19 hb20 hBo_19.size
      clear hK19 hBo_19 hb20
      go_wp2_with fail
      (with_reducible refine (same_is v20 none none [] 0 0 0 v20.heap.size v20.heap.size Rd.nil Rd.nil rfl (by omega)).mono ?_)
      rintro e v21 ⟨rfl, q21, rfl⟩
      have hK21 := bdr hK20 q21
      have hBo_21 := bdr hBo_20 q21
      generalize v20.drewN q21 = v21 at hK21 hBo_21 ⊢
      clear hK20 hBo_20
      go_wp2_with fail
      (with_reducible refine (same_is v21 Ao A key n co c v21.heap.size v21.heap.size (hRo.bel hBo_21) (hk.bel hK21) hkn (by omega)).mono ?_)
      rintro e v22 ⟨rfl, q22, rfl⟩
      have hK22 := bdr hK21 q22
      have hBo_22 := bdr hBo_21 q22
      generalize v21.drewN q22 = v22 at hK22 hBo_22 ⊢
      clear hK21 hBo_21
      clear hRo hk hr hBo_22
      go_wp2_with fail
      go_ret
      exact ⟨rfl, hK22⟩
  · have hm3 : ¬ m ≤ 1000 := by omega
    go_upto_region 8 with (at_builtin; refine wpList_app rfl _ _ 22 5 .u8 1 rfl Tryd.underlying22 inf_u8 hOe hRe rfl rfl hkn key rfl n hkn (by omega) (by omega) (by simp) ?_; intro Ao co va hOo hgo hfo)
    have hKa : Below w.heap.size w va := (Kept.grew (Kept.of_below (S := fun _ => False) hKe) hOe hgo (by have := hK1.size; omega) (by simp; have := hK1.size; omega)).below
    have hRo := hOo.rd
    have hBo := Below.refl va.heap.size va
    have hco : n ≤ co := by have := hOo.len.2; rw [hkn] at this; exact this
    clear hOo hgo hfo hOe hRe hKe hK1 hy0 hy1
    have hbad : m < 0 ∨ 65536 < m := .inr (by omega)
    by_cases h0 : k = 0
    · subst h0
      go_wp2_with fail
      (with_reducible refine (sizes_0 va).mono ?_)
      rintro e v11 ⟨rfl, hb11⟩
      have hK11 := bnx hKa hb11 hKa.size
      have hBo_11 := bnx hBo hb11 hBo.size
      clear hKa hBo hb11
      go_wp2_with fail
      (with_reducible refine (rsizes_0 v11).mono ?_)
      rintro e v12 ⟨rfl, hw12⟩
      subst v12
      go_wp2_with fail
      (with_reducible refine (sums_0 l A' n' c' v11 (hr.bel hK11) hn (by omega) hc hb (hT.below hK11 (Nat.le_refl _))).mono ?_)
      rintro e v13 ⟨A13, c13, rfl, hF13, hb13⟩
      have hK13 := bnx hK11 hb13 hK11.size
      have hBo_13 := bnx hBo_11 hb13 hBo_11.size
      have hRX := hF13.rd
      have hBX_13 := Below.refl v13.heap.size v13
      clear hK11 hBo_11 hb13 hF13
      go_wp2_with fail
      (with_reducible refine (rsums_0 l A' n' c' v13.heap.size v13 (hr.bel hK13) (Nat.le_refl _) hn (by omega) hb).mono ?_)
      rintro e v14 ⟨A14, c14, rfl, hF14, hb14⟩
      have hK14 := bnx hK13 hb14 hK13.size
      have hBo_14 := bnx hBo_13 hb14 hBo_13.size
      have hBX_14 := bnx hBX_13 hb14 hBX_13.size
      have hRZ := hF14.rd
      have hBZ_14 := Below.refl v14.heap.size v14
      clear hK13 hBo_13 hBX_13 hb14 hF14
      go_wp2_with fail
      (with_reducible refine (same_is v14 A13 A14 (sumK 0 l) 32 c13 c14 v14.heap.size v14.heap.size (hRX.bel hBX_14) (hRZ.bel hBZ_14) (sumK_len_0 l) (by omega)).mono ?_)
      rintro e v15 ⟨rfl, q15, rfl⟩
      have hK15 := bdr hK14 q15
      have hBo_15 := bdr hBo_14 q15
      have hBX_15 := bdr hBX_14 q15
      have hBZ_15 := bdr hBZ_14 q15
      generalize v14.drewN q15 = v15 at hK15 hBo_15 hBX_15 hBZ_15 ⊢
      clear hK14 hBo_14 hBX_14 hBZ_14
      clear hRX hRZ hBX_15 hBZ_15
      go_wp2_with fail
      (with_reducible refine (mac_0 key l Ao A' n co n' c' v15 (hRo.bel hBo_15) hkn (by omega) hco hkb (hr.bel hK15) hn (by omega) hc hb (hT.below hK15 (Nat.le_refl _))).mono ?_)
      rintro e v16 ⟨A16, c16, rfl, hF16, hb16⟩
      have hK16 := bnx hK15 hb16 hK15.size
      have hBo_16 := bnx hBo_15 hb16 hBo_15.size
      have hRX := hF16.rd
      have hBX_16 := Below.refl v16.heap.size v16
      clear hK15 hBo_15 hb16 hF16
      go_wp2_with fail
      (with_reducible refine (rmac_0 key l A A' n c n' c' v16 (hk.bel hK16) hkn (by omega) hkb (hr.bel hK16) hn (by omega) hb).mono ?_)
      rintro e v17 ⟨A17, c17, rfl, hF17, hb17⟩
      have hK17 := bnx hK16 hb17 hK16.size
      have hBo_17 := bnx hBo_16 hb17 hBo_16.size
      have hBX_17 := bnx hBX_16 hb17 hBX_16.size
      have hRZ := hF17.rd
      have hBZ_17 := Below.refl v17.heap.size v17
      clear hK16 hBo_16 hBX_16 hb17 hF17
      go_wp2_with fail
      (with_reducible refine (same_is v17 A16 A17 (macK 0 key l) 32 c16 c17 v17.heap.size v17.heap.size (hRX.bel hBX_17) (hRZ.bel hBZ_17) (macK_len_0 key l) (by omega)).mono ?_)
      rintro e v18 ⟨rfl, q18, rfl⟩
      have hK18 := bdr hK17 q18
      have hBo_18 := bdr hBo_17 q18
      have hBX_18 := bdr hBX_17 q18
      have hBZ_18 := bdr hBZ_17 q18
      generalize v17.drewN q18 = v18 at hK18 hBo_18 hBX_18 hBZ_18 ⊢
      clear hK17 hBo_17 hBX_17 hBZ_17
      clear hRX hRZ hBX_18 hBZ_18
      go_wp2_with fail
      (with_reducible refine (maskbad_0 m _ v18 hbad).mono ?_)
      rintro e v19 ⟨rfl, hb19⟩
      have hK19 := bnx hK18 hb19 hK18.size
      have hBo_19 := bnx hBo_18 hb19 hBo_18.size
      clear hK18 hBo_18 hb19
      go_wp2_with fail
      (with_reducible refine (rmaskbad_0 m _ v19 hbad).mono ?_)
      rintro e v20 ⟨rfl, hb20⟩
      have hK20 := bnx hK19 hb20 hK19.size
      have hBo_20 := bnx hBo_19 hb20 hBo_19.size
      clear hK19 hBo_19 hb20
      go_wp2_with fail
      (with_reducible refine (same_is v20 none none [] 0 0 0 v20.heap.size v20.heap.size Rd.nil Rd.nil rfl (by omega)).mono ?_)
      rintro e v21 ⟨rfl, q21, rfl⟩
      have hK21 := bdr hK20 q21
      have hBo_21 := bdr hBo_20 q21
      generalize v20.drewN q21 = v21 at hK21 hBo_21 ⊢
      clear hK20 hBo_20
      go_wp2_with fail
      (with_reducible refine (same_is v21 Ao A key n co c v21.heap.size v21.heap.size (hRo.bel hBo_21) (hk.bel hK21) hkn (by omega)).mono ?_)
      rintro e v22 ⟨rfl, q22, rfl⟩
      have hK22 := bdr hK21 q22
      have hBo_22 := bdr hBo_21 q22
      generalize v21.drewN q22 = v22 at hK22 hBo_22 ⊢
      clear hK21 hBo_21
      clear hRo hk hr hBo_22
      go_wp2_with fail
      go_ret
      exact ⟨rfl, hK22⟩
    by_cases h1 : k = 1
    · subst h1
      go_wp2_with fail
      (with_reducible refine (sizes_1 va).mono ?_)
      rintro e v11 ⟨rfl, hb11⟩
      have hK11 := bnx hKa hb11 hKa.size
      have hBo_11 := bnx hBo hb11 hBo.size
      clear hKa hBo hb11
      go_wp2_with fail
      (with_reducible refine (rsizes_1 v11).mono ?_)
      rintro e v12 ⟨rfl, hw12⟩
      subst v12
      go_wp2_with fail
      (with_reducible refine (sums_1 l A' n' c' v11 (hr.bel hK11) hn (by omega) hc hb (hT.below hK11 (Nat.le_refl _))).mono ?_)
      rintro e v13 ⟨A13, c13, rfl, hF13, hb13⟩
      have hK13 := bnx hK11 hb13 hK11.size
      have hBo_13 := bnx hBo_11 hb13 hBo_11.size
      have hRX := hF13.rd
      have hBX_13 := Below.refl v13.heap.size v13
      clear hK11 hBo_11 hb13 hF13
      go_wp2_with fail
      (with_reducible refine (rsums_1 l A' n' c' v13.heap.size v13 (hr.bel hK13) (Nat.le_refl _) hn (by omega) hb).mono ?_)
      rintro e v14 ⟨A14, c14, rfl, hF14, hb14⟩
      have hK14 := bnx hK13 hb14 hK13.size
      have hBo_14 := bnx hBo_13 hb14 hBo_13.size
      have hBX_14 := bnx hBX_13 hb14 hBX_13.size
      have hRZ := hF14.rd
      have hBZ_14 := Below.refl v14.heap.size v14
      clear hK13 hBo_13 hBX_13 hb14 hF14
      go_wp2_with fail
      (with_reducible refine (same_is v14 A13 A14 (sumK 1 l) 64 c13 c14 v14.heap.size v14.heap.size (hRX.bel hBX_14) (hRZ.bel hBZ_14) (sumK_len_1 l) (by omega)).mono ?_)
      rintro e v15 ⟨rfl, q15, rfl⟩
      have hK15 := bdr hK14 q15
      have hBo_15 := bdr hBo_14 q15
      have hBX_15 := bdr hBX_14 q15
      have hBZ_15 := bdr hBZ_14 q15
      generalize v14.drewN q15 = v15 at hK15 hBo_15 hBX_15 hBZ_15 ⊢
      clear hK14 hBo_14 hBX_14 hBZ_14
      clear hRX hRZ hBX_15 hBZ_15
      go_wp2_with fail
      (with_reducible refine (mac_1 key l Ao A' n co n' c' v15 (hRo.bel hBo_15) hkn (by omega) hco hkb (hr.bel hK15) hn (by omega) hc hb (hT.below hK15 (Nat.le_refl _))).mono ?_)
      rintro e v16 ⟨A16, c16, rfl, hF16, hb16⟩
      have hK16 := bnx hK15 hb16 hK15.size
      have hBo_16 := bnx hBo_15 hb16 hBo_15.size
      have hRX := hF16.rd
      have hBX_16 := Below.refl v16.heap.size v16
      clear hK15 hBo_15 hb16 hF16
      go_wp2_with fail
      (with_reducible refine (rmac_1 key l A A' n c n' c' v16 (hk.bel hK16) hkn (by omega) hkb (hr.bel hK16) hn (by omega) hb).mono ?_)
      rintro e v17 ⟨A17, c17, rfl, hF17, hb17⟩
      have hK17 := bnx hK16 hb17 hK16.size
      have hBo_17 := bnx hBo_16 hb17 hBo_16.size
      have hBX_17 := bnx hBX_16 hb17 hBX_16.size
      have hRZ := hF17.rd
      have hBZ_17 := Below.refl v17.heap.size v17
      clear hK16 hBo_16 hBX_16 hb17 hF17
      go_wp2_with fail
      (with_reducible refine (same_is v17 A16 A17 (macK 1 key l) 64 c16 c17 v17.heap.size v17.heap.size (hRX.bel hBX_17) (hRZ.bel hBZ_17) (macK_len_1 key l) (by omega)).mono ?_)
      rintro e v18 ⟨rfl, q18, rfl⟩
      have hK18 := bdr hK17 q18
      have hBo_18 := bdr hBo_17 q18
      have hBX_18 := bdr hBX_17 q18
      have hBZ_18 := bdr hBZ_17 q18
      generalize v17.drewN q18 = v18 at hK18 hBo_18 hBX_18 hBZ_18 ⊢
      clear hK17 hBo_17 hBX_17 hBZ_17
      clear hRX hRZ hBX_18 hBZ_18
      go_wp2_with fail
      (with_reducible refine (maskbad_1 m _ v18 hbad).mono ?_)
      rintro e v19 ⟨rfl, hb19⟩
      have hK19 := bnx hK18 hb19 hK18.size
      have hBo_19 := bnx hBo_18 hb19 hBo_18.size
      clear hK18 hBo_18 hb19
      go_wp2_with fail
      (with_reducible refine (rmaskbad_1 m _ v19 hbad).mono ?_)
      rintro e v20 ⟨rfl, hb20⟩
      have hK20 := bnx hK19 hb20 hK19.size
      have hBo_20 := bnx hBo_19 hb20 hBo_19.size
      clear hK19 hBo_19 hb20
      go_wp2_with fail
      (with_reducible refine (same_is v20 none none [] 0 0 0 v20.heap.size v20.heap.size Rd.nil Rd.nil rfl (by omega)).mono ?_)
      rintro e v21 ⟨rfl, q21, rfl⟩
      have hK21 := bdr hK20 q21
      have hBo_21 := bdr hBo_20 q21
      generalize v20.drewN q21 = v21 at hK21 hBo_21 ⊢
      clear hK20 hBo_20
      go_wp2_with fail
      (with_reducible refine (same_is v21 Ao A key n co c v21.heap.size v21.heap.size (hRo.bel hBo_21) (hk.bel hK21) hkn (by omega)).mono ?_)
      rintro e v22 ⟨rfl, q22, rfl⟩
      have hK22 := bdr hK21 q22
      have hBo_22 := bdr hBo_21 q22
      generalize v21.drewN q22 = v22 at hK22 hBo_22 ⊢
      clear hK21 hBo_21
      clear hRo hk hr hBo_22
      go_wp2_with fail
      go_ret
      exact ⟨rfl, hK22⟩
    have hko : k < 0 ∨ 2 ≤ k := by omega
    go_wp2_with fail
    (with_reducible refine (sizes_no k va hko).mono ?_)
    rintro e v11 ⟨rfl, hb11⟩
    have hK11 := bnx hKa hb11 hKa.size
    have hBo_11 := bnx hBo hb11 hBo.size
    clear hKa hBo hb11
    go_wp2_with fail
    (with_reducible refine (rsizes_no k v11 h0 h1).mono ?_)
    rintro e v12 ⟨rfl, hw12⟩
    subst v12
    go_wp2_with fail
    (with_reducible refine (sums_no k _ v11 hko).mono ?_)
    rintro e v13 ⟨rfl, hb13⟩
    have hK13 := bnx hK11 hb13 hK11.size
    have hBo_13 := bnx hBo_11 hb13 hBo_11.size
    clear hK11 hBo_11 hb13
    go_wp2_with fail
    (with_reducible refine (rsums_no k _ v13 h0 h1).mono ?_)
    rintro e v14 ⟨rfl, hb14⟩
    have hK14 := bnx hK13 hb14 hK13.size
    have hBo_14 := bnx hBo_13 hb14 hBo_13.size
    clear hK13 hBo_13 hb14
    go_wp2_with fail
    (with_reducible refine (same_is v14 none none [] 0 0 0 v14.heap.size v14.heap.size Rd.nil Rd.nil rfl (by omega)).mono ?_)
    rintro e v15 ⟨rfl, q15, rfl⟩
    have hK15 := bdr hK14 q15
    have hBo_15 := bdr hBo_14 q15
    generalize v14.drewN q15 = v15 at hK15 hBo_15 ⊢
    clear hK14 hBo_14
    go_wp2_with fail
    (with_reducible refine (mac_no k _ _ v15 hko).mono ?_)
    rintro e v16 ⟨rfl, hb16⟩
    have hK16 := bnx hK15 hb16 hK15.size
    have hBo_16 := bnx hBo_15 hb16 hBo_15.size
    clear hK15 hBo_15 hb16
    go_wp2_with fail
    (with_reducible refine (rmac_no k _ _ v16 h0 h1).mono ?_)
    rintro e v17 ⟨rfl, hb17⟩
    have hK17 := bnx hK16 hb17 hK16.size
    have hBo_17 := bnx hBo_16 hb17 hBo_16.size
    clear hK16 hBo_16 hb17
    go_wp2_with fail
    (with_reducible refine (same_is v17 none none [] 0 0 0 v17.heap.size v17.heap.size Rd.nil Rd.nil rfl (by omega)).mono ?_)
    rintro e v18 ⟨rfl, q18, rfl⟩
    have hK18 := bdr hK17 q18
    have hBo_18 := bdr hBo_17 q18
    generalize v17.drewN q18 = v18 at hK18 hBo_18 ⊢
    clear hK17 hBo_17
    go_wp2_with fail
    (with_reducible refine (mask_no k m _ v18 hko).mono ?_)
    rintro e v19 ⟨rfl, hb19⟩
    have hK19 := bnx hK18 hb19 hK18.size
    have hBo_19 := bnx hBo_18 hb19 hBo_18.size
    clear hK18 hBo_18 hb19
    go_wp2_with fail
    (with_reducible refine (rmask_no k m _ v19 h0 h1).mono ?_)
    rintro e v20 ⟨rfl, hb20⟩
    have hK20 := bnx hK19 hb20 hK19.size
    have hBo_20 := bnx hBo_19 hb20 hBo_19.size
    clear hK19 hBo_19 hb20
    go_wp2_with fail
    (with_reducible refine (same_is v20 none none [] 0 0 0 v20.heap.size v20.heap.size Rd.nil Rd.nil rfl (by omega)).mono ?_)
    rintro e v21 ⟨rfl, q21, rfl⟩
    have hK21 := bdr hK20 q21
    have hBo_21 := bdr hBo_20 q21
    generalize v20.drewN q21 = v21 at hK21 hBo_21 ⊢
    clear hK20 hBo_20
    go_wp2_with fail
    (with_reducible refine (same_is v21 Ao A key n co c v21.heap.size v21.heap.size (hRo.bel hBo_21) (hk.bel hK21) hkn (by omega)).mono ?_)
    rintro e v22 ⟨rfl, q22, rfl⟩
    have hK22 := bdr hK21 q22
    have hBo_22 := bdr hBo_21 q22
    generalize v21.drewN q22 = v22 at hK22 hBo_22 ⊢
    clear hK21 hBo_21
    clear hRo hk hr hBo_22
    go_wp2_with fail
    go_ret
    exact ⟨rfl, hK22⟩
end Go.Proofs.YteidkdpfjponfaaDoor
