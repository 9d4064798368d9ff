/- MacParts, walked. Conditions: what is read reads as bytes; the tables. -/
import Derived.Test.YteidkdpfjponfaaDoorM6G
namespace Go.Proofs.YteidkdpfjponfaaDoor
open Go.RowKit
set_option linter.unusedVariables false
set_option linter.unusedSimpArgs false
theorem maskN_take (k : Nat) (l : List Int) : ∀ (m j : Nat), j ≤ m → (maskN k l m).take (lnK k * j) = maskN k l j
  | 0, j, h => by
    obtain rfl : j = 0 := by omega
    simp [maskN]
  | m + 1, j, h => by
    rcases Nat.lt_or_ge m j with hj | hj
    · obtain rfl : j = m + 1 := by omega
      exact List.take_of_length_le (by rw [maskN_len]; exact Nat.le_refl _)
    · rw [maskN, List.take_append_of_le_length (by rw [maskN_len]; exact Nat.mul_le_mul_left _ hj), maskN_take k l m j hj]
theorem maskN_cut (k : Nat) (l : List Int) (m j : Nat) (h : j < m) : ((maskN k l m).take (lnK k * (j + 1))).drop (lnK k * j) = sumK k (l ++ putL j 4) := by
  rw [maskN_take k l m (j + 1) (by omega), maskN, List.drop_append_of_le_length (by rw [maskN_len]; exact Nat.le_refl _), List.drop_of_length_le (by rw [maskN_len]; exact Nat.le_refl _), List.nil_append]
theorem put_small (j : Nat) (h : j < 5) : [0, 0, 0, (j : Int)] = putL j 4 := by
  match j, h with
  | 0, _ => rfl
  | 1, _ => rfl
  | 2, _ => rfl
  | 3, _ => rfl
  | 4, _ => rfl
theorem mac_zeros_0 (l : List Int) : macK 0 (List.replicate 64 0) l = macK 0 [] l := by
  have h1 : keyK 0 (List.replicate 64 0) = List.replicate 64 0 := by unfold keyK; rw [if_neg (by rw [List.length_replicate]; exact Nat.lt_irrefl _)]
  have h2 : keyK 0 [] = [] := rfl
  have h3 : padL (List.replicate 64 0) (bkK 0) = padL [] (bkK 0) := by
    have e : bkK 0 = 64 := rfl
    rw [e]
    simp [padL]
  unfold macK
  rw [h1, h2, h3]
theorem mask_cut_0 (l : List Int) (j : Nat) (h : j < 5) (a b : Nat) (ha : 32 * j = a) (hb : 32 * (j + 1) = b) : ((maskK 0 l (5 * 32)).take b).drop a = sumK 0 (l ++ putL j 4) := by
  have : maskK 0 l (5 * 32) = maskN 0 l 5 := by
    unfold maskK
    exact List.take_of_length_le (by rw [maskN_len]; exact Nat.le_refl _)
  rw [this, ← ha, ← hb]
  exact maskN_cut 0 l 5 j h
theorem mac_zeros_1 (l : List Int) : macK 1 (List.replicate 128 0) l = macK 1 [] l := by
  have h1 : keyK 1 (List.replicate 128 0) = List.replicate 128 0 := by unfold keyK; rw [if_neg (by rw [List.length_replicate]; exact Nat.lt_irrefl _)]
  have h2 : keyK 1 [] = [] := rfl
  have h3 : padL (List.replicate 128 0) (bkK 1) = padL [] (bkK 1) := by
    have e : bkK 1 = 128 := rfl
    rw [e]
    simp [padL]
  unfold macK
  rw [h1, h2, h3]
theorem mask_cut_1 (l : List Int) (j : Nat) (h : j < 5) (a b : Nat) (ha : 64 * j = a) (hb : 64 * (j + 1) = b) : ((maskK 1 l (5 * 64)).take b).drop a = sumK 1 (l ++ putL j 4) := by
  have : maskK 1 l (5 * 64) = maskN 1 l 5 := by
    unfold maskK
    exact List.take_of_length_le (by rw [maskN_len]; exact Nat.le_refl _)
  rw [this, ← ha, ← hb]
  exact maskN_cut 1 l 5 j h
set_option maxRecDepth 100000 in
set_option maxHeartbeats 4000000 in
theorem macParts_walk (kd jd : Int) (l : List Int) (A' : Option Addr) (c' : Nat) (w : World) (hkd : B8 kd) (hjd : B8 jd) (hr : Rd w w.heap.size .u8 A' l) (hc : l.length ≤ c') (hcm : c' ≤ 9223372036854775807) (hb : Bys l) (hT : MTb w) :
    Calls Tryd.prog 11 #[.int .u8 kd, .slice A' l.length c', .int .u8 jd] w fun e w' => e = .returned (.bool true) ∧ Below w.heap.size w w' := by
  obtain ⟨n', hn⟩ : ∃ n, l.length = n := ⟨_, rfl⟩
  rw [hn] at hc ⊢
  obtain ⟨kn, rfl⟩ : ∃ q : Nat, kd = q := ⟨kd.toNat, by have := hkd.1; omega⟩
  obtain ⟨jn, rfl⟩ : ∃ q : Nat, jd = q := ⟨jd.toNat, by have := hjd.1; omega⟩
  have hkn : kn < 256 := by have := hkd.2; omega
  have hjn : jn < 256 := by have := hjd.2; omega
  have hmx : (200000000 : Nat) ≤ maxLen := by decide
  clear hkd hjd
  go_enter Tryd.func11, Tryd.ntmps11
  go_wp2_with fail
  (with_reducible refine (awake06_any w hT).mono ?_)
  rintro e w1 ⟨rfl, hK1⟩
  by_cases hg2 : 500 < n'
  · have hg2I : (500 : Int) < (n' : Int) := by omega
    go_wp2_with fail
    go_ret
    exact ⟨rfl, hK1⟩
  have hg2I : ¬ (500 : Int) < (n' : Int) := by omega
  obtain ⟨j, hj⟩ : ∃ j, jn % 5 = j := ⟨_, rfl⟩
  have hj5 : j < 5 := by omega
  have hjI : (jn : Int) % 5 = (j : Int) := by omega
  clear hj
  have hk2 : kn % 2 = 0 ∨ kn % 2 = 1 := by omega
  rcases hk2 with hk2 | hk2
  · have hkI : (kn : Int) % 2 = 0 := by omega
    obtain ⟨a9, ha9⟩ : ∃ a, 32 * j = a := ⟨_, rfl⟩
    obtain ⟨b9, hb9⟩ : ∃ a, 32 * (j + 1) = a := ⟨_, rfl⟩
    have ha9I : (j : Int) * 32 = (a9 : Int) := by omega
    have hb9I : ((j : Int) + 1) * 32 = (b9 : Int) := by omega
    have HAB := Lib.hid (And.intro ha9 hb9)
    clear ha9 hb9 hk2
    go_wp2_with fail
    (with_reducible refine (sizes_0 w1).mono ?_)
    rintro e v11 ⟨rfl, hb11⟩
    have hK11 := bnx hK1 hb11 hK1.size
    clear hK1 hb11
    go_wp2_with fail
    (with_reducible refine (mac_0 [] l none A' 0 0 n' c' v11 Rd.nil rfl (by decide) (Nat.le_refl _) Bys.nil (hr.bel hK11) hn (by omega) hc hb (hT.below hK11 (Nat.le_refl _))).mono ?_)
    rintro e v12 ⟨A12, c12, rfl, hF12, hb12⟩
    have hK12 := bnx hK11 hb12 hK11.size
    have hRX := hF12.rd
    have hBX_12 := Below.refl v12.heap.size v12
    clear hK11 hb12 hF12
    go_wp2_with (refine wpList_make_nums rfl _ _ 22 rfl 5 .u8 1 Tryd.underlying22 inf_u8 .i64 .i64 64 64 64 64 rfl rfl rfl rfl (by decide) (by decide) (by decide) ?_; intro v13 hw13)
    have hRz : Rd (v12.alloc (.cells (U .u8 (List.replicate 64 0)) 5)) (v12.alloc (.cells (U .u8 (List.replicate 64 0)) 5)).heap.size .u8 (some ⟨v12.heap.size, 0, none⟩) (List.replicate 64 0) := Rd.of_arr (Arr.new v12 5 .u8 (List.replicate 64 0)) (by simp)
    have hK13 := bal hK12 hK12.size (.cells (U .u8 (List.replicate 64 0)) 5)
    have hBX_13 := bal hBX_12 hBX_12.size (.cells (U .u8 (List.replicate 64 0)) 5)
    rw [← hw13.out] at hRz hK13 hBX_13
    clear hK12 hBX_12
    clear hw13
    have hBz := Below.refl v13.heap.size v13
    (with_reducible refine (mac_0 (List.replicate 64 0) l (some ⟨v12.heap.size, 0, none⟩) A' 64 64 n' c' v13 (hRz.bel hBz) (by simp) (by decide) (Nat.le_refl _) (Bys.rep _ B8.zero) (hr.bel hK13) hn (by omega) hc hb (hT.below hK13 (Nat.le_refl _))).mono ?_)
    rintro e v14 ⟨A14, c14, rfl, hF14, hb14⟩
    have hK14 := bnx hK13 hb14 hK13.size
    have hBX_14 := bnx hBX_13 hb14 hBX_13.size
    have hBz_14 := bnx hBz hb14 hBz.size
    rw [mac_zeros_0] at hF14
    have hRZ := hF14.rd
    have hBZ_14 := Below.refl v14.heap.size v14
    clear hK13 hBX_13 hBz hb14 hF14
    clear hRz hBz_14
    go_wp2_with fail
    (with_reducible refine (maskI_0 l A' n' c' 160 160 v14 rfl (hr.bel hK14) hn (by omega) hc hb (hT.below hK14 (Nat.le_refl _)) (by decide)).mono ?_)
    rintro e v15 ⟨A15, c15, rfl, hF15, hb15⟩
    have hK15 := bnx hK14 hb15 hK14.size
    have hBX_15 := bnx hBX_14 hb15 hBX_14.size
    have hBZ_15 := bnx hBZ_14 hb15 hBZ_14.size
    have hcM : 160 ≤ c15 := by have := hF15.cap; rw [maskK_len_0] at this; exact this
    have hRM := hF15.rd
    have hBM_15 := Below.refl v15.heap.size v15
    clear hK14 hBX_14 hBZ_14 hb15 hF15
    have hOe := Own.lit (b := v15.heap.size) (e := 5) (k := .u8) v15 [] (Nat.le_refl _) (Nat.zero_le _)
    have hRe := (hr.bel hK15).alloc (Nat.le_refl _) (.cells #[] 5)
    have hKe := (Kept.refl v15.heap.size (fun _ => False) v15).alloc (.cells #[] 5) (Nat.le_refl _)
    obtain ⟨T, hTT⟩ : ∃ T, l ++ putL j 4 = T := ⟨_, rfl⟩
    have hTl : T.length = n' + 4 := by rw [← hTT, List.length_append, hn, putL_len]
    have hTb : Bys T := by rw [← hTT]; exact hb.append (putL_B _ _)
    have hps := put_small j hj5
    have HPS := Lib.hid hps
    have HTT := Lib.hid (And.intro hTT hTl)
    clear hTT hTl hps
    go_wp2_with (first
      | (at_builtin; refine wpList_app rfl (.tmp 56) (.tmp 57) 22 5 .u8 1 rfl Tryd.underlying22 inf_u8 hOe hRe rfl rfl hn l rfl n' hn (by omega) (by omega) (by simp) ?_; intro A1 c1 u1 hO1 hg1 hf1)
      | (at_builtin; have hO2 := hO1.alloc (.cells (U .u8 [0, 0, 0, (j : Int)]) 5); have hN2 := Rd.of_arr (B := u1.heap.size + 1) (Arr.new u1 5 .u8 [0, 0, 0, (j : Int)]) (by omega); have hz1 := hg1.size; refine wpList_app rfl (.tmp 58) (.tmp 61) 22 5 .u8 1 rfl Tryd.underlying22 inf_u8 hO2 hN2 rfl rfl rfl T (by rw [HPS.out, HTT.out.1]) (n' + 4) HTT.out.2 (by omega) (by omega) (by simp at hz1 ⊢; omega) ?_; intro A2 c2 u2 hO3 hg2 hf2))
    have hz1 : v15.heap.size + 1 ≤ u1.heap.size := by have := hg1.size; simpa using this
    have hKu := (((hKe.grew hOe hg1 (Nat.le_refl _) (by simp)).alloc (.cells (U .u8 [0, 0, 0, (j : Int)]) 5) (by omega)).grew (hO1.alloc (.cells (U .u8 [0, 0, 0, (j : Int)]) 5)) hg2 (Nat.le_refl _) (by simp; omega)).below
    have hRu := hO3.rd
    have hcu : n' + 4 ≤ c2 := by have := hO3.len.2; rw [HTT.out.2] at this; exact this
    have hK16 := bnx hK15 hKu hK15.size
    have hBX_16 := bnx hBX_15 hKu hBX_15.size
    have hBZ_16 := bnx hBZ_15 hKu hBZ_15.size
    have hBM_16 := bnx hBM_15 hKu hBM_15.size
    clear hK15 hBX_15 hBZ_15 hBM_15 hKu hOe hRe hKe hO1 hg1 hf1 hO3 hg2 hf2 hz1
    (with_reducible refine (sums_0 T A2 (n' + 4) c2 u2 hRu HTT.out.2 (by omega) hcu hTb (hT.below hK16 (Nat.le_refl _))).mono ?_)
    rintro e v17 ⟨A17, c17, rfl, hF17, hb17⟩
    have hK17 := bnx hK16 hb17 hK16.size
    have hBX_17 := bnx hBX_16 hb17 hBX_16.size
    have hBZ_17 := bnx hBZ_16 hb17 hBZ_16.size
    have hBM_17 := bnx hBM_16 hb17 hBM_16.size
    rw [← HTT.out.1] at hF17
    have hRP := hF17.rd
    have hBP_17 := Below.refl v17.heap.size v17
    clear hK16 hBX_16 hBZ_16 hBM_16 hb17 hF17 hRu
    have hsl := fun wx => run_slice_ab (P := Tryd.prog) 22 5 Tryd.underlying22 (by kernel_rfl) A15 160 c15 a9 b9 (by have := HAB.out; omega) (by have := HAB.out; omega) .i64 .i64 wx
    obtain ⟨AM, hAM⟩ : ∃ q, (if c15 = a9 then A15 else A15.map (·.add a9)) = q := ⟨_, rfl⟩
    obtain ⟨cM, hcM2⟩ : ∃ q, c15 - a9 = q := ⟨_, rfl⟩
    have hba : b9 - a9 = 32 := by have := HAB.out; omega
    rw [hba, hAM, hcM2] at hsl
    have hRM2 := hRM.cut a9 b9 c15 (by rw [maskK_len_0]; have := HAB.out; omega) (by have := HAB.out; omega)
    rw [mask_cut_0 l j hj5 a9 b9 HAB.out.1 HAB.out.2, hAM] at hRM2
    clear hba hAM hcM2 hRM
    go_wp2_with fail
    (with_reducible refine (same_is v17 A12 A14 (macK 0 [] l) 32 c12 c14 v17.heap.size v17.heap.size (hRX.bel hBX_17) (hRZ.bel hBZ_17) (macK_len_0 _ _) (by omega)).mono ?_)
    rintro e v18 ⟨rfl, q18, rfl⟩
    have hK18 := bdr hK17 q18
    have hBX_18 := bdr hBX_17 q18
    have hBZ_18 := bdr hBZ_17 q18
    have hBM_18 := bdr hBM_17 q18
    have hBP_18 := bdr hBP_17 q18
    generalize v17.drewN q18 = v18 at hK18 hBX_18 hBZ_18 hBM_18 hBP_18 ⊢
    clear hK17 hBX_17 hBZ_17 hBM_17 hBP_17
    go_wp2_with fail
    (with_reducible refine (same_is v18 AM A17 (sumK 0 (l ++ putL j 4)) 32 cM c17 v18.heap.size v18.heap.size (hRM2.bel hBM_18) (hRP.bel hBP_18) (sumK_len_0 _) (by omega)).mono ?_)
    rintro e v19 ⟨rfl, q19, rfl⟩
    have hK19 := bdr hK18 q19
    have hBX_19 := bdr hBX_18 q19
    have hBZ_19 := bdr hBZ_18 q19
    have hBM_19 := bdr hBM_18 q19
    have hBP_19 := bdr hBP_18 q19
    generalize v18.drewN q19 = v19 at hK19 hBX_19 hBZ_19 hBM_19 hBP_19 ⊢
    clear hK18 hBX_18 hBZ_18 hBM_18 hBP_18
    clear hsl
    go_wp2_with fail
    go_ret
    exact ⟨rfl, hK19⟩
  · have hkI : (kn : Int) % 2 = 1 := by omega
    obtain ⟨a9, ha9⟩ : ∃ a, 64 * j = a := ⟨_, rfl⟩
    obtain ⟨b9, hb9⟩ : ∃ a, 64 * (j + 1) = a := ⟨_, rfl⟩
    have ha9I : (j : Int) * 64 = (a9 : Int) := by omega
    have hb9I : ((j : Int) + 1) * 64 = (b9 : Int) := by omega
    have HAB := Lib.hid (And.intro ha9 hb9)
    clear ha9 hb9 hk2
    go_wp2_with fail
    (with_reducible refine (sizes_1 w1).mono ?_)
    rintro e v11 ⟨rfl, hb11⟩
    have hK11 := bnx hK1 hb11 hK1.size
    clear hK1 hb11
    go_wp2_with fail
    (with_reducible refine (mac_1 [] l none A' 0 0 n' c' v11 Rd.nil rfl (by decide) (Nat.le_refl _) Bys.nil (hr.bel hK11) hn (by omega) hc hb (hT.below hK11 (Nat.le_refl _))).mono ?_)
    rintro e v12 ⟨A12, c12, rfl, hF12, hb12⟩
    have hK12 := bnx hK11 hb12 hK11.size
    have hRX := hF12.rd
    have hBX_12 := Below.refl v12.heap.size v12
    clear hK11 hb12 hF12
    go_wp2_with (refine wpList_make_nums rfl _ _ 22 rfl 5 .u8 1 Tryd.underlying22 inf_u8 .i64 .i64 128 128 128 128 rfl rfl rfl rfl (by decide) (by decide) (by decide) ?_; intro v13 hw13)
    have hRz : Rd (v12.alloc (.cells (U .u8 (List.replicate 128 0)) 5)) (v12.alloc (.cells (U .u8 (List.replicate 128 0)) 5)).heap.size .u8 (some ⟨v12.heap.size, 0, none⟩) (List.replicate 128 0) := Rd.of_arr (Arr.new v12 5 .u8 (List.replicate 128 0)) (by simp)
    have hK13 := bal hK12 hK12.size (.cells (U .u8 (List.replicate 128 0)) 5)
    have hBX_13 := bal hBX_12 hBX_12.size (.cells (U .u8 (List.replicate 128 0)) 5)
    rw [← hw13.out] at hRz hK13 hBX_13
    clear hK12 hBX_12
    clear hw13
    have hBz := Below.refl v13.heap.size v13
    (with_reducible refine (mac_1 (List.replicate 128 0) l (some ⟨v12.heap.size, 0, none⟩) A' 128 128 n' c' v13 (hRz.bel hBz) (by simp) (by decide) (Nat.le_refl _) (Bys.rep _ B8.zero) (hr.bel hK13) hn (by omega) hc hb (hT.below hK13 (Nat.le_refl _))).mono ?_)
    rintro e v14 ⟨A14, c14, rfl, hF14, hb14⟩
    have hK14 := bnx hK13 hb14 hK13.size
    have hBX_14 := bnx hBX_13 hb14 hBX_13.size
    have hBz_14 := bnx hBz hb14 hBz.size
    rw [mac_zeros_1] at hF14
    have hRZ := hF14.rd
    have hBZ_14 := Below.refl v14.heap.size v14
    clear hK13 hBX_13 hBz hb14 hF14
    clear hRz hBz_14
    go_wp2_with fail
    (with_reducible refine (maskI_1 l A' n' c' 320 320 v14 rfl (hr.bel hK14) hn (by omega) hc hb (hT.below hK14 (Nat.le_refl _)) (by decide)).mono ?_)
    rintro e v15 ⟨A15, c15, rfl, hF15, hb15⟩
    have hK15 := bnx hK14 hb15 hK14.size
    have hBX_15 := bnx hBX_14 hb15 hBX_14.size
    have hBZ_15 := bnx hBZ_14 hb15 hBZ_14.size
    have hcM : 320 ≤ c15 := by have := hF15.cap; rw [maskK_len_1] at this; exact this
    have hRM := hF15.rd
    have hBM_15 := Below.refl v15.heap.size v15
    clear hK14 hBX_14 hBZ_14 hb15 hF15
    have hOe := Own.lit (b := v15.heap.size) (e := 5) (k := .u8) v15 [] (Nat.le_refl _) (Nat.zero_le _)
    have hRe := (hr.bel hK15).alloc (Nat.le_refl _) (.cells #[] 5)
    have hKe := (Kept.refl v15.heap.size (fun _ => False) v15).alloc (.cells #[] 5) (Nat.le_refl _)
    obtain ⟨T, hTT⟩ : ∃ T, l ++ putL j 4 = T := ⟨_, rfl⟩
    have hTl : T.length = n' + 4 := by rw [← hTT, List.length_append, hn, putL_len]
    have hTb : Bys T := by rw [← hTT]; exact hb.append (putL_B _ _)
    have hps := put_small j hj5
    have HPS := Lib.hid hps
    have HTT := Lib.hid (And.intro hTT hTl)
    clear hTT hTl hps
    go_wp2_with (first
      | (at_builtin; refine wpList_app rfl (.tmp 56) (.tmp 57) 22 5 .u8 1 rfl Tryd.underlying22 inf_u8 hOe hRe rfl rfl hn l rfl n' hn (by omega) (by omega) (by simp) ?_; intro A1 c1 u1 hO1 hg1 hf1)
      | (at_builtin; have hO2 := hO1.alloc (.cells (U .u8 [0, 0, 0, (j : Int)]) 5); have hN2 := Rd.of_arr (B := u1.heap.size + 1) (Arr.new u1 5 .u8 [0, 0, 0, (j : Int)]) (by omega); have hz1 := hg1.size; refine wpList_app rfl (.tmp 58) (.tmp 61) 22 5 .u8 1 rfl Tryd.underlying22 inf_u8 hO2 hN2 rfl rfl rfl T (by rw [HPS.out, HTT.out.1]) (n' + 4) HTT.out.2 (by omega) (by omega) (by simp at hz1 ⊢; omega) ?_; intro A2 c2 u2 hO3 hg2 hf2))
    have hz1 : v15.heap.size + 1 ≤ u1.heap.size := by have := hg1.size; simpa using this
    have hKu := (((hKe.grew hOe hg1 (Nat.le_refl _) (by simp)).alloc (.cells (U .u8 [0, 0, 0, (j : Int)]) 5) (by omega)).grew (hO1.alloc (.cells (U .u8 [0, 0, 0, (j : Int)]) 5)) hg2 (Nat.le_refl _) (by simp; omega)).below
    have hRu := hO3.rd
    have hcu : n' + 4 ≤ c2 := by have := hO3.len.2; rw [HTT.out.2] at this; exact this
    have hK16 := bnx hK15 hKu hK15.size
    have hBX_16 := bnx hBX_15 hKu hBX_15.size
    have hBZ_16 := bnx hBZ_15 hKu hBZ_15.size
    have hBM_16 := bnx hBM_15 hKu hBM_15.size
    clear hK15 hBX_15 hBZ_15 hBM_15 hKu hOe hRe hKe hO1 hg1 hf1 hO3 hg2 hf2 hz1
    (with_reducible refine (sums_1 T A2 (n' + 4) c2 u2 hRu HTT.out.2 (by omega) hcu hTb (hT.below hK16 (Nat.le_refl _))).mono ?_)
    rintro e v17 ⟨A17, c17, rfl, hF17, hb17⟩
    have hK17 := bnx hK16 hb17 hK16.size
    have hBX_17 := bnx hBX_16 hb17 hBX_16.size
    have hBZ_17 := bnx hBZ_16 hb17 hBZ_16.size
    have hBM_17 := bnx hBM_16 hb17 hBM_16.size
    rw [← HTT.out.1] at hF17
    have hRP := hF17.rd
    have hBP_17 := Below.refl v17.heap.size v17
    clear hK16 hBX_16 hBZ_16 hBM_16 hb17 hF17 hRu
    have hsl := fun wx => run_slice_ab (P := Tryd.prog) 22 5 Tryd.underlying22 (by kernel_rfl) A15 320 c15 a9 b9 (by have := HAB.out; omega) (by have := HAB.out; omega) .i64 .i64 wx
    obtain ⟨AM, hAM⟩ : ∃ q, (if c15 = a9 then A15 else A15.map (·.add a9)) = q := ⟨_, rfl⟩
    obtain ⟨cM, hcM2⟩ : ∃ q, c15 - a9 = q := ⟨_, rfl⟩
    have hba : b9 - a9 = 64 := by have := HAB.out; omega
    rw [hba, hAM, hcM2] at hsl
    have hRM2 := hRM.cut a9 b9 c15 (by rw [maskK_len_1]; have := HAB.out; omega) (by have := HAB.out; omega)
    rw [mask_cut_1 l j hj5 a9 b9 HAB.out.1 HAB.out.2, hAM] at hRM2
    clear hba hAM hcM2 hRM
    go_wp2_with fail
    (with_reducible refine (same_is v17 A12 A14 (macK 1 [] l) 64 c12 c14 v17.heap.size v17.heap.size (hRX.bel hBX_17) (hRZ.bel hBZ_17) (macK_len_1 _ _) (by omega)).mono ?_)
    rintro e v18 ⟨rfl, q18, rfl⟩
    have hK18 := bdr hK17 q18
    have hBX_18 := bdr hBX_17 q18
    have hBZ_18 := bdr hBZ_17 q18
    have hBM_18 := bdr hBM_17 q18
    have hBP_18 := bdr hBP_17 q18
    generalize v17.drewN q18 = v18 at hK18 hBX_18 hBZ_18 hBM_18 hBP_18 ⊢
    clear hK17 hBX_17 hBZ_17 hBM_17 hBP_17
    go_wp2_with fail
    (with_reducible refine (same_is v18 AM A17 (sumK 1 (l ++ putL j 4)) 64 cM c17 v18.heap.size v18.heap.size (hRM2.bel hBM_18) (hRP.bel hBP_18) (sumK_len_1 _) (by omega)).mono ?_)
    rintro e v19 ⟨rfl, q19, rfl⟩
    have hK19 := bdr hK18 q19
    have hBX_19 := bdr hBX_18 q19
    have hBZ_19 := bdr hBZ_18 q19
    have hBM_19 := bdr hBM_18 q19
    have hBP_19 := bdr hBP_18 q19
    generalize v18.drewN q19 = v19 at hK19 hBX_19 hBZ_19 hBM_19 hBP_19 ⊢
    clear hK18 hBX_18 hBZ_18 hBM_18 hBP_18
    clear hsl
    go_wp2_with fail
    go_ret
    exact ⟨rfl, hK19⟩
end Go.Proofs.YteidkdpfjponfaaDoor
