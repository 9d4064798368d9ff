/- MacKeys, walked. Conditions: what is read reads as bytes; the tables. -/
import Derived.Test.YteidkdpfjponfaaDoorM6I
import Derived.Test.YteidkdpfjponfaaDoorAz
namespace Go.Proofs.YteidkdpfjponfaaDoor
open Go.RowKit
set_option linter.unusedVariables false
set_option linter.unusedSimpArgs false
theorem mac_sumkey_0 (key l : List Int) (h : 64 < key.length) : macK 0 (sumK 0 key) l = macK 0 key l := by
  have h1 : keyK 0 key = sumK 0 key := by unfold keyK; rw [if_pos (show bkK 0 < key.length from h)]
  have h2 : keyK 0 (sumK 0 key) = sumK 0 key := by unfold keyK; rw [if_neg (by rw [sumK_len_0]; decide)]
  unfold macK
  rw [h1, h2]
theorem mac_pad_0 (key l : List Int) (m : Nat) (h : key.length + m ≤ 64) : macK 0 (key ++ List.replicate m 0) l = macK 0 key l := by
  have e : bkK 0 = 64 := rfl
  have h1 : keyK 0 key = key := by unfold keyK; rw [if_neg (by rw [e]; omega)]
  have h2 : keyK 0 (key ++ List.replicate m 0) = key ++ List.replicate m 0 := by unfold keyK; rw [if_neg (by rw [e]; simp; omega)]
  have h3 : padL (key ++ List.replicate m 0) 64 = padL key 64 := by
    unfold padL
    rw [List.append_assoc, List.replicate_append_replicate]
    simp; omega
  unfold macK
  rw [h1, h2, e, h3]
theorem mask_pref_0 (l : List Int) (m : Nat) (h : m ≤ 300) : (maskK 0 l 300).take m = maskK 0 l m := by
  unfold maskK
  have e : lnK 0 = 32 := rfl
  rw [List.take_take, Nat.min_eq_left h]
  have h1 := maskN_take 0 l ((300 + lnK 0 - 1) / lnK 0) ((m + lnK 0 - 1) / lnK 0) (by rw [e]; omega)
  rw [← h1, List.take_take, e, Nat.min_eq_left (by omega)]
theorem mac_sumkey_1 (key l : List Int) (h : 128 < key.length) : macK 1 (sumK 1 key) l = macK 1 key l := by
  have h1 : keyK 1 key = sumK 1 key := by unfold keyK; rw [if_pos (show bkK 1 < key.length from h)]
  have h2 : keyK 1 (sumK 1 key) = sumK 1 key := by unfold keyK; rw [if_neg (by rw [sumK_len_1]; decide)]
  unfold macK
  rw [h1, h2]
theorem mac_pad_1 (key l : List Int) (m : Nat) (h : key.length + m ≤ 128) : macK 1 (key ++ List.replicate m 0) l = macK 1 key l := by
  have e : bkK 1 = 128 := rfl
  have h1 : keyK 1 key = key := by unfold keyK; rw [if_neg (by rw [e]; omega)]
  have h2 : keyK 1 (key ++ List.replicate m 0) = key ++ List.replicate m 0 := by unfold keyK; rw [if_neg (by rw [e]; simp; omega)]
  have h3 : padL (key ++ List.replicate m 0) 128 = padL key 128 := by
    unfold padL
    rw [List.append_assoc, List.replicate_append_replicate]
    simp; omega
  unfold macK
  rw [h1, h2, e, h3]
theorem mask_pref_1 (l : List Int) (m : Nat) (h : m ≤ 300) : (maskK 1 l 300).take m = maskK 1 l m := by
  unfold maskK
  have e : lnK 1 = 64 := rfl
  rw [List.take_take, Nat.min_eq_left h]
  have h1 := maskN_take 1 l ((300 + lnK 1 - 1) / lnK 1) ((m + lnK 1 - 1) / lnK 1) (by rw [e]; omega)
  rw [← h1, List.take_take, e, Nat.min_eq_left (by omega)]
set_option maxRecDepth 100000 in
set_option maxHeartbeats 4000000 in
theorem macKeys_walk (kd m : Int) (key l : List Int) (A A' : Option Addr) (c c' : Nat) (w : World) (hkd : B8 kd) (hk : Rd w w.heap.size .u8 A key) (hkc : key.length ≤ c) (hkm : c ≤ 9223372036854775807) (hkb : Bys key) (hr : Rd w w.heap.size .u8 A' l) (hc : l.length ≤ c') (hcm : c' ≤ 9223372036854775807) (hb : Bys l) (hT : MTb w) :
    Calls Tryd.prog 10 #[.int .u8 kd, .slice A key.length c, .agg #[.slice A' l.length c', .int .i64 m]] w fun e w' => e = .returned (.bool true) ∧ Below w.heap.size w w' := by
  obtain ⟨n, hkn⟩ : ∃ n, key.length = n := ⟨_, rfl⟩
  obtain ⟨n', hn⟩ : ∃ n, l.length = n := ⟨_, rfl⟩
  rw [hkn] at hkc ⊢
  rw [hn] at hc ⊢
  obtain ⟨kn, rfl⟩ : ∃ q : Nat, kd = q := ⟨kd.toNat, by have := hkd.1; omega⟩
  have hkn2 : kn < 256 := by have := hkd.2; omega
  obtain ⟨mr, hmr⟩ : ∃ q : Nat, m % 256 = q := ⟨(m % 256).toNat, by omega⟩
  have hmr2 : IntKind.u8.wrap m = (mr : Int) := by rw [IntKind.wrap_u8]; exact hmr
  have hmrb : mr < 256 := by omega
  have hmx : (200000000 : Nat) ≤ maxLen := by decide
  clear hkd
  have hX := Blk.new w 44 #[.slice A' n' c', .int .i64 m]
  have hKx := (Below.refl w.heap.size w).alloc (Nat.le_refl _) (.cells #[.slice A' n' c', .int .i64 m] 44)
  have hlx := hX.lt
  go_enter Tryd.func10, Tryd.ntmps10
  go_upto_region 1 with fail
  change Code.wp _ _ _ _ (w.alloc (.cells #[.slice A' n' c', .int .i64 m] 44))
  have hx0 := hX.cell 0 _ rfl
  have hx1 := hX.cell 1 _ rfl
  generalize w.alloc (.cells #[.slice A' n' c', .int .i64 m] 44) = w0 at hKx hlx hx0 hx1 ⊢
  clear hX
  go_wp2_with fail
  (with_reducible refine (awake06_any w0 (hT.below hKx (Nat.le_refl _))).mono ?_)
  rintro e w1 ⟨rfl, hb1⟩
  have hK1 := bnx hKx hb1 hKx.size
  have hy0 := cell_bel hx0 hb1 hlx
  have hy1 := cell_bel hx1 hb1 hlx
  clear hx0 hx1 hb1 hKx hlx
  by_cases hg1 : 1000 < n
  · have hg1I : (1000 : Int) < (n : Int) := by omega
    go_wp2_with fail
    go_ret
    exact ⟨rfl, hK1⟩
  have hg1I : ¬ (1000 : Int) < (n : Int) := by omega
  by_cases hg2 : 1000 < n'
  · have hg2I : (1000 : Int) < (n' : Int) := by omega
    go_wp2_with fail
    go_ret
    exact ⟨rfl, hK1⟩
  have hg2I : ¬ (1000 : Int) < (n' : Int) := by omega
  have hk2 : kn % 2 = 0 ∨ kn % 2 = 1 := by omega
  rcases hk2 with hk2 | hk2
  · have hkI : (kn : Int) % 2 = 0 := by omega
    clear hk2
    go_wp2_with fail
    (with_reducible refine (rsizes_0 w1).mono ?_)
    rintro e v11 ⟨rfl, hw11⟩
    subst v11
    go_wp2_with fail
    (with_reducible refine (mac_0 key l A A' n c n' c' w1 (hk.bel hK1) hkn (by omega) hkc hkb (hr.bel hK1) hn (by omega) hc hb (hT.below hK1 (Nat.le_refl _))).mono ?_)
    rintro e v12 ⟨A12, c12, rfl, hF12, hb12⟩
    have hK12 := bnx hK1 hb12 hK1.size
    have hRX := hF12.rd
    have hBX_12 := Below.refl v12.heap.size v12
    clear hK1 hb12 hF12 hy0 hy1
    by_cases hlong : 64 < n
    · have hlI : (64 : Int) < (n : Int) := by omega
      go_wp2_with fail
      (with_reducible refine (sums_0 key A n c v12 (hk.bel hK12) hkn (by omega) hkc hkb (hT.below hK12 (Nat.le_refl _))).mono ?_)
      rintro e v13 ⟨A13, c13, rfl, hF13, hb13⟩
      have hK13 := bnx hK12 hb13 hK12.size
      have hBX_13 := bnx hBX_12 hb13 hBX_12.size
      have hcQ : 32 ≤ c13 := by have := hF13.cap; rw [sumK_len_0] at this; exact this
      have hRQ := hF13.rd
      have hBQ_13 := Below.refl v13.heap.size v13
      clear hK12 hBX_12 hb13 hF13
      go_wp2_with fail
      (with_reducible refine (mac_0 (sumK 0 key) l A13 A' 32 c13 n' c' v13 (hRQ.bel hBQ_13) (sumK_len_0 key) (by decide) hcQ (sumK_B _ _) (hr.bel hK13) hn (by omega) hc hb (hT.below hK13 (Nat.le_refl _))).mono ?_)
      rintro e v14 ⟨A14, c14, rfl, hF14, hb14⟩
      have hK14 := bnx hK13 hb14 hK13.size
      have hBX_14 := bnx hBX_13 hb14 hBX_13.size
      have hBQ_14 := bnx hBQ_13 hb14 hBQ_13.size
      rw [mac_sumkey_0 key l (by rw [hkn]; exact hlong)] at hF14
      have hRZ := hF14.rd
      have hBZ_14 := Below.refl v14.heap.size v14
      clear hK13 hBX_13 hBQ_13 hb14 hF14
      clear hRQ hBQ_14
      go_wp2_with fail
      (with_reducible refine (same_is v14 A12 A14 (macK 0 key l) 32 c12 c14 v14.heap.size v14.heap.size (hRX.bel hBX_14) (hRZ.bel hBZ_14) (macK_len_0 _ _) (by omega)).mono ?_)
      rintro e v15 ⟨rfl, q15, rfl⟩
      have hK15 := bdr hK14 q15
      have hBX_15 := bdr hBX_14 q15
      have hBZ_15 := bdr hBZ_14 q15
      generalize v14.drewN q15 = v15 at hK15 hBX_15 hBZ_15 ⊢
      clear hK14 hBX_14 hBZ_14
      clear hRX hRZ hBX_15 hBZ_15
      go_wp2_with fail
      (with_reducible refine (maskI_0 l A' n' c' 300 300 v15 rfl (hr.bel hK15) hn (by omega) hc hb (hT.below hK15 (Nat.le_refl _)) (by decide)).mono ?_)
      rintro e v16 ⟨A16, c16, rfl, hF16, hb16⟩
      have hK16 := bnx hK15 hb16 hK15.size
      have hcM : 300 ≤ c16 := by have := hF16.cap; rw [maskK_len_0] at this; exact this
      have hRM := hF16.rd
      have hBM_16 := Below.refl v16.heap.size v16
      clear hK15 hb16 hF16
      go_wp2_with fail
      (with_reducible refine (mask_0 l A' n' c' mr v16 (hr.bel hK16) hn (by omega) hc hb (hT.below hK16 (Nat.le_refl _)) (by omega)).mono ?_)
      rintro e v17 ⟨A17, c17, rfl, hF17, hb17⟩
      have hK17 := bnx hK16 hb17 hK16.size
      have hBM_17 := bnx hBM_16 hb17 hBM_16.size
      have hRS := hF17.rd
      have hBS_17 := Below.refl v17.heap.size v17
      clear hK16 hBM_16 hb17 hF17
      have hsl : ∀ wx, (Instr.slice 22 (.slice A16 300 c16) none (some (.int .i64 (mr : Int))) none).run Tryd.prog wx = .ok (.slice A16 mr c16) wx := fun wx => run_slice_0v 22 5 Tryd.underlying22 (by kernel_rfl) A16 _ c16 mr (by omega) .i64 wx
      have hRt := hRM.take_ mr
      rw [mask_pref_0 l mr (by omega)] at hRt
      clear hRM
      go_wp2_with fail
      (with_reducible refine (same_is v17 A17 A16 (maskK 0 l mr) mr c17 c16 v17.heap.size v17.heap.size (hRS.bel hBS_17) (hRt.bel hBM_17) (maskK_len_0 l mr) (by omega)).mono ?_)
      rintro e v18 ⟨rfl, q18, rfl⟩
      have hK18 := bdr hK17 q18
      have hBM_18 := bdr hBM_17 q18
      have hBS_18 := bdr hBS_17 q18
      generalize v17.drewN q18 = v18 at hK18 hBM_18 hBS_18 ⊢
      clear hK17 hBM_17 hBS_17
      clear hsl
      go_wp2_with fail
      go_ret
      exact ⟨rfl, hK18⟩
    have hlI : ¬ (64 : Int) < (n : Int) := by omega
    by_cases hfit : n + mr ≤ 64
    · have hfI : (n : Int) + (mr : Int) ≤ 64 := by omega
      have hOe := Own.lit (b := v12.heap.size) (e := 5) (k := .u8) v12 [] (Nat.le_refl _) (Nat.zero_le _)
      have hRe := (hk.bel hK12).alloc (Nat.le_refl _) (.cells #[] 5)
      have hKe := (Kept.refl v12.heap.size (fun _ => False) v12).alloc (.cells #[] 5) (Nat.le_refl _)
      obtain ⟨T, hTT⟩ : ∃ T, key ++ List.replicate mr 0 = T := ⟨_, rfl⟩
      have hTl : T.length = n + mr := by rw [← hTT]; simp [hkn]
      have hTb : Bys T := by rw [← hTT]; exact hkb.append (Bys.rep _ B8.zero)
      have HTT := Lib.hid (And.intro hTT hTl)
      clear hTT hTl
      go_wp2_with (first
        | (at_builtin; refine wpList_app rfl (.tmp 63) (.tmp 64) 22 5 .u8 1 rfl Tryd.underlying22 inf_u8 hOe hRe rfl rfl hkn key rfl n hkn (by omega) (by omega) (by simp) ?_; intro A1 c1 u1 hO1 hg1 hf1)
        | (at_builtin; have hz1 := hg1.size; refine wpList_app_zeros rfl (.tmp 65) (.tmp 67) 22 3 5 .u8 .i64 1 rfl Tryd.underlying22 Tryd.underlying3 inf_u8 mr hO1 rfl rfl T HTT.out.1 (n + mr) HTT.out.2 (by omega) (by omega) (by decide) (by omega) (by simp at hz1; omega) ?_; intro A2 c2 u2 hO3 hg2 hf2))
      have hz1 : v12.heap.size + 1 ≤ u1.heap.size := by have := hg1.size; simpa using this
      have hKu := ((hKe.grew hOe hg1 (Nat.le_refl _) (by simp)).grew hO1 hg2 (Nat.le_refl _) (by omega)).below
      have hRu := hO3.rd
      have hcu : n + mr ≤ c2 := by have := hO3.len.2; rw [HTT.out.2] at this; exact this
      have hK13 := bnx hK12 hKu hK12.size
      have hBX_13 := bnx hBX_12 hKu hBX_12.size
      clear hK12 hBX_12 hKu hOe hRe hKe hO1 hg1 hf1 hO3 hg2 hf2 hz1
      go_wp2_with fail
      (with_reducible refine (mac_0 T l A2 A' (n + mr) c2 n' c' u2 hRu HTT.out.2 (by omega) hcu hTb (hr.bel hK13) hn (by omega) hc hb (hT.below hK13 (Nat.le_refl _))).mono ?_)
      rintro e v14 ⟨A14, c14, rfl, hF14, hb14⟩
      have hK14 := bnx hK13 hb14 hK13.size
      have hBX_14 := bnx hBX_13 hb14 hBX_13.size
      rw [← HTT.out.1, mac_pad_0 key l mr (by rw [hkn]; exact hfit)] at hF14
      have hRZ := hF14.rd
      have hBZ_14 := Below.refl v14.heap.size v14
      clear hK13 hBX_13 hb14 hF14 hRu
      go_wp2_with fail
      (with_reducible refine (same_is v14 A12 A14 (macK 0 key l) 32 c12 c14 v14.heap.size v14.heap.size (hRX.bel hBX_14) (hRZ.bel hBZ_14) (macK_len_0 _ _) (by omega)).mono ?_)
      rintro e v15 ⟨rfl, q15, rfl⟩
      have hK15 := bdr hK14 q15
      have hBX_15 := bdr hBX_14 q15
      have hBZ_15 := bdr hBZ_14 q15
      generalize v14.drewN q15 = v15 at hK15 hBX_15 hBZ_15 ⊢
      clear hK14 hBX_14 hBZ_14
      clear hRX hRZ hBX_15 hBZ_15
      go_wp2_with fail
      (with_reducible refine (maskI_0 l A' n' c' 300 300 v15 rfl (hr.bel hK15) hn (by omega) hc hb (hT.below hK15 (Nat.le_refl _)) (by decide)).mono ?_)
      rintro e v16 ⟨A16, c16, rfl, hF16, hb16⟩
      have hK16 := bnx hK15 hb16 hK15.size
      have hcM : 300 ≤ c16 := by have := hF16.cap; rw [maskK_len_0] at this; exact this
      have hRM := hF16.rd
      have hBM_16 := Below.refl v16.heap.size v16
      clear hK15 hb16 hF16
      go_wp2_with fail
      (with_reducible refine (mask_0 l A' n' c' mr v16 (hr.bel hK16) hn (by omega) hc hb (hT.below hK16 (Nat.le_refl _)) (by omega)).mono ?_)
      rintro e v17 ⟨A17, c17, rfl, hF17, hb17⟩
      have hK17 := bnx hK16 hb17 hK16.size
      have hBM_17 := bnx hBM_16 hb17 hBM_16.size
      have hRS := hF17.rd
      have hBS_17 := Below.refl v17.heap.size v17
      clear hK16 hBM_16 hb17 hF17
      have hsl : ∀ wx, (Instr.slice 22 (.slice A16 300 c16) none (some (.int .i64 (mr : Int))) none).run Tryd.prog wx = .ok (.slice A16 mr c16) wx := fun wx => run_slice_0v 22 5 Tryd.underlying22 (by kernel_rfl) A16 _ c16 mr (by omega) .i64 wx
      have hRt := hRM.take_ mr
      rw [mask_pref_0 l mr (by omega)] at hRt
      clear hRM
      go_wp2_with fail
      (with_reducible refine (same_is v17 A17 A16 (maskK 0 l mr) mr c17 c16 v17.heap.size v17.heap.size (hRS.bel hBS_17) (hRt.bel hBM_17) (maskK_len_0 l mr) (by omega)).mono ?_)
      rintro e v18 ⟨rfl, q18, rfl⟩
      have hK18 := bdr hK17 q18
      have hBM_18 := bdr hBM_17 q18
      have hBS_18 := bdr hBS_17 q18
      generalize v17.drewN q18 = v18 at hK18 hBM_18 hBS_18 ⊢
      clear hK17 hBM_17 hBS_17
      clear hsl
      go_wp2_with fail
      go_ret
      exact ⟨rfl, hK18⟩
    · have hfI : ¬ (n : Int) + (mr : Int) ≤ 64 := by omega
      clear hRX hBX_12
      go_wp2_with fail
      (with_reducible refine (maskI_0 l A' n' c' 300 300 v12 rfl (hr.bel hK12) hn (by omega) hc hb (hT.below hK12 (Nat.le_refl _)) (by decide)).mono ?_)
      rintro e v13 ⟨A13, c13, rfl, hF13, hb13⟩
      have hK13 := bnx hK12 hb13 hK12.size
      have hcM : 300 ≤ c13 := by have := hF13.cap; rw [maskK_len_0] at this; exact this
      have hRM := hF13.rd
      have hBM_13 := Below.refl v13.heap.size v13
      clear hK12 hb13 hF13
      go_wp2_with fail
      (with_reducible refine (mask_0 l A' n' c' mr v13 (hr.bel hK13) hn (by omega) hc hb (hT.below hK13 (Nat.le_refl _)) (by omega)).mono ?_)
      rintro e v14 ⟨A14, c14, rfl, hF14, hb14⟩
      have hK14 := bnx hK13 hb14 hK13.size
      have hBM_14 := bnx hBM_13 hb14 hBM_13.size
      have hRS := hF14.rd
      have hBS_14 := Below.refl v14.heap.size v14
      clear hK13 hBM_13 hb14 hF14
      have hsl : ∀ wx, (Instr.slice 22 (.slice A13 300 c13) none (some (.int .i64 (mr : Int))) none).run Tryd.prog wx = .ok (.slice A13 mr c13) wx := fun wx => run_slice_0v 22 5 Tryd.underlying22 (by kernel_rfl) A13 _ c13 mr (by omega) .i64 wx
      have hRt := hRM.take_ mr
      rw [mask_pref_0 l mr (by omega)] at hRt
      clear hRM
      go_wp2_with fail
      (with_reducible refine (same_is v14 A14 A13 (maskK 0 l mr) mr c14 c13 v14.heap.size v14.heap.size (hRS.bel hBS_14) (hRt.bel hBM_14) (maskK_len_0 l mr) (by omega)).mono ?_)
      rintro e v15 ⟨rfl, q15, rfl⟩
      have hK15 := bdr hK14 q15
      have hBM_15 := bdr hBM_14 q15
      have hBS_15 := bdr hBS_14 q15
      generalize v14.drewN q15 = v15 at hK15 hBM_15 hBS_15 ⊢
      clear hK14 hBM_14 hBS_14
      clear hsl
      go_wp2_with fail
      go_ret
      exact ⟨rfl, hK15⟩
  · have hkI : (kn : Int) % 2 = 1 := by omega
    clear hk2
    go_wp2_with fail
    (with_reducible refine (rsizes_1 w1).mono ?_)
    rintro e v11 ⟨rfl, hw11⟩
    subst v11
    go_wp2_with fail
    (with_reducible refine (mac_1 key l A A' n c n' c' w1 (hk.bel hK1) hkn (by omega) hkc hkb (hr.bel hK1) hn (by omega) hc hb (hT.below hK1 (Nat.le_refl _))).mono ?_)
    rintro e v12 ⟨A12, c12, rfl, hF12, hb12⟩
    have hK12 := bnx hK1 hb12 hK1.size
    have hRX := hF12.rd
    have hBX_12 := Below.refl v12.heap.size v12
    clear hK1 hb12 hF12 hy0 hy1
    by_cases hlong : 128 < n
    · have hlI : (128 : Int) < (n : Int) := by omega
      go_wp2_with fail
      (with_reducible refine (sums_1 key A n c v12 (hk.bel hK12) hkn (by omega) hkc hkb (hT.below hK12 (Nat.le_refl _))).mono ?_)
      rintro e v13 ⟨A13, c13, rfl, hF13, hb13⟩
      have hK13 := bnx hK12 hb13 hK12.size
      have hBX_13 := bnx hBX_12 hb13 hBX_12.size
      have hcQ : 64 ≤ c13 := by have := hF13.cap; rw [sumK_len_1] at this; exact this
      have hRQ := hF13.rd
      have hBQ_13 := Below.refl v13.heap.size v13
      clear hK12 hBX_12 hb13 hF13
      go_wp2_with fail
      (with_reducible refine (mac_1 (sumK 1 key) l A13 A' 64 c13 n' c' v13 (hRQ.bel hBQ_13) (sumK_len_1 key) (by decide) hcQ (sumK_B _ _) (hr.bel hK13) hn (by omega) hc hb (hT.below hK13 (Nat.le_refl _))).mono ?_)
      rintro e v14 ⟨A14, c14, rfl, hF14, hb14⟩
      have hK14 := bnx hK13 hb14 hK13.size
      have hBX_14 := bnx hBX_13 hb14 hBX_13.size
      have hBQ_14 := bnx hBQ_13 hb14 hBQ_13.size
      rw [mac_sumkey_1 key l (by rw [hkn]; exact hlong)] at hF14
      have hRZ := hF14.rd
      have hBZ_14 := Below.refl v14.heap.size v14
      clear hK13 hBX_13 hBQ_13 hb14 hF14
      clear hRQ hBQ_14
      go_wp2_with fail
      (with_reducible refine (same_is v14 A12 A14 (macK 1 key l) 64 c12 c14 v14.heap.size v14.heap.size (hRX.bel hBX_14) (hRZ.bel hBZ_14) (macK_len_1 _ _) (by omega)).mono ?_)
      rintro e v15 ⟨rfl, q15, rfl⟩
      have hK15 := bdr hK14 q15
      have hBX_15 := bdr hBX_14 q15
      have hBZ_15 := bdr hBZ_14 q15
      generalize v14.drewN q15 = v15 at hK15 hBX_15 hBZ_15 ⊢
      clear hK14 hBX_14 hBZ_14
      clear hRX hRZ hBX_15 hBZ_15
      go_wp2_with fail
      (with_reducible refine (maskI_1 l A' n' c' 300 300 v15 rfl (hr.bel hK15) hn (by omega) hc hb (hT.below hK15 (Nat.le_refl _)) (by decide)).mono ?_)
      rintro e v16 ⟨A16, c16, rfl, hF16, hb16⟩
      have hK16 := bnx hK15 hb16 hK15.size
      have hcM : 300 ≤ c16 := by have := hF16.cap; rw [maskK_len_1] at this; exact this
      have hRM := hF16.rd
      have hBM_16 := Below.refl v16.heap.size v16
      clear hK15 hb16 hF16
      go_wp2_with fail
      (with_reducible refine (mask_1 l A' n' c' mr v16 (hr.bel hK16) hn (by omega) hc hb (hT.below hK16 (Nat.le_refl _)) (by omega)).mono ?_)
      rintro e v17 ⟨A17, c17, rfl, hF17, hb17⟩
      have hK17 := bnx hK16 hb17 hK16.size
      have hBM_17 := bnx hBM_16 hb17 hBM_16.size
      have hRS := hF17.rd
      have hBS_17 := Below.refl v17.heap.size v17
      clear hK16 hBM_16 hb17 hF17
      have hsl : ∀ wx, (Instr.slice 22 (.slice A16 300 c16) none (some (.int .i64 (mr : Int))) none).run Tryd.prog wx = .ok (.slice A16 mr c16) wx := fun wx => run_slice_0v 22 5 Tryd.underlying22 (by kernel_rfl) A16 _ c16 mr (by omega) .i64 wx
      have hRt := hRM.take_ mr
      rw [mask_pref_1 l mr (by omega)] at hRt
      clear hRM
      go_wp2_with fail
      (with_reducible refine (same_is v17 A17 A16 (maskK 1 l mr) mr c17 c16 v17.heap.size v17.heap.size (hRS.bel hBS_17) (hRt.bel hBM_17) (maskK_len_1 l mr) (by omega)).mono ?_)
      rintro e v18 ⟨rfl, q18, rfl⟩
      have hK18 := bdr hK17 q18
      have hBM_18 := bdr hBM_17 q18
      have hBS_18 := bdr hBS_17 q18
      generalize v17.drewN q18 = v18 at hK18 hBM_18 hBS_18 ⊢
      clear hK17 hBM_17 hBS_17
      clear hsl
      go_wp2_with fail
      go_ret
      exact ⟨rfl, hK18⟩
    have hlI : ¬ (128 : Int) < (n : Int) := by omega
    by_cases hfit : n + mr ≤ 128
    · have hfI : (n : Int) + (mr : Int) ≤ 128 := by omega
      have hOe := Own.lit (b := v12.heap.size) (e := 5) (k := .u8) v12 [] (Nat.le_refl _) (Nat.zero_le _)
      have hRe := (hk.bel hK12).alloc (Nat.le_refl _) (.cells #[] 5)
      have hKe := (Kept.refl v12.heap.size (fun _ => False) v12).alloc (.cells #[] 5) (Nat.le_refl _)
      obtain ⟨T, hTT⟩ : ∃ T, key ++ List.replicate mr 0 = T := ⟨_, rfl⟩
      have hTl : T.length = n + mr := by rw [← hTT]; simp [hkn]
      have hTb : Bys T := by rw [← hTT]; exact hkb.append (Bys.rep _ B8.zero)
      have HTT := Lib.hid (And.intro hTT hTl)
      clear hTT hTl
      go_wp2_with (first
        | (at_builtin; refine wpList_app rfl (.tmp 63) (.tmp 64) 22 5 .u8 1 rfl Tryd.underlying22 inf_u8 hOe hRe rfl rfl hkn key rfl n hkn (by omega) (by omega) (by simp) ?_; intro A1 c1 u1 hO1 hg1 hf1)
        | (at_builtin; have hz1 := hg1.size; refine wpList_app_zeros rfl (.tmp 65) (.tmp 67) 22 3 5 .u8 .i64 1 rfl Tryd.underlying22 Tryd.underlying3 inf_u8 mr hO1 rfl rfl T HTT.out.1 (n + mr) HTT.out.2 (by omega) (by omega) (by decide) (by omega) (by simp at hz1; omega) ?_; intro A2 c2 u2 hO3 hg2 hf2))
      have hz1 : v12.heap.size + 1 ≤ u1.heap.size := by have := hg1.size; simpa using this
      have hKu := ((hKe.grew hOe hg1 (Nat.le_refl _) (by simp)).grew hO1 hg2 (Nat.le_refl _) (by omega)).below
      have hRu := hO3.rd
      have hcu : n + mr ≤ c2 := by have := hO3.len.2; rw [HTT.out.2] at this; exact this
      have hK13 := bnx hK12 hKu hK12.size
      have hBX_13 := bnx hBX_12 hKu hBX_12.size
      clear hK12 hBX_12 hKu hOe hRe hKe hO1 hg1 hf1 hO3 hg2 hf2 hz1
      go_wp2_with fail
      (with_reducible refine (mac_1 T l A2 A' (n + mr) c2 n' c' u2 hRu HTT.out.2 (by omega) hcu hTb (hr.bel hK13) hn (by omega) hc hb (hT.below hK13 (Nat.le_refl _))).mono ?_)
      rintro e v14 ⟨A14, c14, rfl, hF14, hb14⟩
      have hK14 := bnx hK13 hb14 hK13.size
      have hBX_14 := bnx hBX_13 hb14 hBX_13.size
      rw [← HTT.out.1, mac_pad_1 key l mr (by rw [hkn]; exact hfit)] at hF14
      have hRZ := hF14.rd
      have hBZ_14 := Below.refl v14.heap.size v14
      clear hK13 hBX_13 hb14 hF14 hRu
      go_wp2_with fail
      (with_reducible refine (same_is v14 A12 A14 (macK 1 key l) 64 c12 c14 v14.heap.size v14.heap.size (hRX.bel hBX_14) (hRZ.bel hBZ_14) (macK_len_1 _ _) (by omega)).mono ?_)
      rintro e v15 ⟨rfl, q15, rfl⟩
      have hK15 := bdr hK14 q15
      have hBX_15 := bdr hBX_14 q15
      have hBZ_15 := bdr hBZ_14 q15
      generalize v14.drewN q15 = v15 at hK15 hBX_15 hBZ_15 ⊢
      clear hK14 hBX_14 hBZ_14
      clear hRX hRZ hBX_15 hBZ_15
      go_wp2_with fail
      (with_reducible refine (maskI_1 l A' n' c' 300 300 v15 rfl (hr.bel hK15) hn (by omega) hc hb (hT.below hK15 (Nat.le_refl _)) (by decide)).mono ?_)
      rintro e v16 ⟨A16, c16, rfl, hF16, hb16⟩
      have hK16 := bnx hK15 hb16 hK15.size
      have hcM : 300 ≤ c16 := by have := hF16.cap; rw [maskK_len_1] at this; exact this
      have hRM := hF16.rd
      have hBM_16 := Below.refl v16.heap.size v16
      clear hK15 hb16 hF16
      go_wp2_with fail
      (with_reducible refine (mask_1 l A' n' c' mr v16 (hr.bel hK16) hn (by omega) hc hb (hT.below hK16 (Nat.le_refl _)) (by omega)).mono ?_)
      rintro e v17 ⟨A17, c17, rfl, hF17, hb17⟩
      have hK17 := bnx hK16 hb17 hK16.size
      have hBM_17 := bnx hBM_16 hb17 hBM_16.size
      have hRS := hF17.rd
      have hBS_17 := Below.refl v17.heap.size v17
      clear hK16 hBM_16 hb17 hF17
      have hsl : ∀ wx, (Instr.slice 22 (.slice A16 300 c16) none (some (.int .i64 (mr : Int))) none).run Tryd.prog wx = .ok (.slice A16 mr c16) wx := fun wx => run_slice_0v 22 5 Tryd.underlying22 (by kernel_rfl) A16 _ c16 mr (by omega) .i64 wx
      have hRt := hRM.take_ mr
      rw [mask_pref_1 l mr (by omega)] at hRt
      clear hRM
      go_wp2_with fail
      (with_reducible refine (same_is v17 A17 A16 (maskK 1 l mr) mr c17 c16 v17.heap.size v17.heap.size (hRS.bel hBS_17) (hRt.bel hBM_17) (maskK_len_1 l mr) (by omega)).mono ?_)
      rintro e v18 ⟨rfl, q18, rfl⟩
      have hK18 := bdr hK17 q18
      have hBM_18 := bdr hBM_17 q18
      have hBS_18 := bdr hBS_17 q18
      generalize v17.drewN q18 = v18 at hK18 hBM_18 hBS_18 ⊢
      clear hK17 hBM_17 hBS_17
      clear hsl
      go_wp2_with fail
      go_ret
      exact ⟨rfl, hK18⟩
    · have hfI : ¬ (n : Int) + (mr : Int) ≤ 128 := by omega
      clear hRX hBX_12
      go_wp2_with fail
      (with_reducible refine (maskI_1 l A' n' c' 300 300 v12 rfl (hr.bel hK12) hn (by omega) hc hb (hT.below hK12 (Nat.le_refl _)) (by decide)).mono ?_)
      rintro e v13 ⟨A13, c13, rfl, hF13, hb13⟩
      have hK13 := bnx hK12 hb13 hK12.size
      have hcM : 300 ≤ c13 := by have := hF13.cap; rw [maskK_len_1] at this; exact this
      have hRM := hF13.rd
      have hBM_13 := Below.refl v13.heap.size v13
      clear hK12 hb13 hF13
      go_wp2_with fail
      (with_reducible refine (mask_1 l A' n' c' mr v13 (hr.bel hK13) hn (by omega) hc hb (hT.below hK13 (Nat.le_refl _)) (by omega)).mono ?_)
      rintro e v14 ⟨A14, c14, rfl, hF14, hb14⟩
      have hK14 := bnx hK13 hb14 hK13.size
      have hBM_14 := bnx hBM_13 hb14 hBM_13.size
      have hRS := hF14.rd
      have hBS_14 := Below.refl v14.heap.size v14
      clear hK13 hBM_13 hb14 hF14
      have hsl : ∀ wx, (Instr.slice 22 (.slice A13 300 c13) none (some (.int .i64 (mr : Int))) none).run Tryd.prog wx = .ok (.slice A13 mr c13) wx := fun wx => run_slice_0v 22 5 Tryd.underlying22 (by kernel_rfl) A13 _ c13 mr (by omega) .i64 wx
      have hRt := hRM.take_ mr
      rw [mask_pref_1 l mr (by omega)] at hRt
      clear hRM
      go_wp2_with fail
      (with_reducible refine (same_is v14 A14 A13 (maskK 1 l mr) mr c14 c13 v14.heap.size v14.heap.size (hRS.bel hBS_14) (hRt.bel hBM_14) (maskK_len_1 l mr) (by omega)).mono ?_)
      rintro e v15 ⟨rfl, q15, rfl⟩
      have hK15 := bdr hK14 q15
      have hBM_15 := bdr hBM_14 q15
      have hBS_15 := bdr hBS_14 q15
      generalize v14.drewN q15 = v15 at hK15 hBM_15 hBS_15 ⊢
      clear hK14 hBM_14 hBS_14
      clear hsl
      go_wp2_with fail
      go_ret
      exact ⟨rfl, hK15⟩
end Go.Proofs.YteidkdpfjponfaaDoor
