/- MacKinds, walked. Conditions: what is read reads as bytes; the tables. -/
import Derived.Test.YteidkdpfjponfaaDoorM6G
namespace Go.Proofs.YteidkdpfjponfaaDoor
open Go.RowKit
set_option linter.unusedVariables false
set_option linter.unusedSimpArgs false
set_option maxRecDepth 100000 in
set_option maxHeartbeats 4000000 in
theorem macKinds_walk (k : Int) (l : List Int) (A' : Option Addr) (c' : Nat) (w : World) (hr : Rd w w.heap.size .u8 A' l) (hc : l.length ≤ c') (hcm : c' ≤ 9223372036854775807) (hb : Bys l) (hT : MTb w) :
    Calls Tryd.prog 12 #[.int .i64 k, .slice A' l.length c'] w fun e w' => e = .returned (.bool true) ∧ Below w.heap.size w w' := by
  obtain ⟨n', hn⟩ : ∃ n, l.length = n := ⟨_, rfl⟩
  rw [hn] at hc ⊢
  go_enter Tryd.func12, Tryd.ntmps12
  go_wp2_with fail
  (with_reducible refine (awake06_any w hT).mono ?_)
  rintro e w1 ⟨rfl, hK1⟩
  by_cases hg2 : 1000 < n'
  · have hg2I : (1000 : Int) < (n' : Int) := by omega
    go_wp2_with fail
    go_ret
    exact ⟨rfl, hK1⟩
  have hg2I : ¬ (1000 : Int) < (n' : Int) := by omega
  by_cases h0 : k = 0
  · subst h0
    go_wp2_with fail
    (with_reducible refine (sizes_0 w1).mono ?_)
    rintro e v11 ⟨rfl, hb11⟩
    have hK11 := bnx hK1 hb11 hK1.size
    clear hK1 hb11
    go_wp2_with fail
    (with_reducible refine (sums_0 l A' n' c' v11 (hr.bel hK11) hn (by omega) hc hb (hT.below hK11 (Nat.le_refl _))).mono ?_)
    rintro e v12 ⟨A12, c12, rfl, hF12, hb12⟩
    have hK12 := bnx hK11 hb12 hK11.size
    clear hK11 hb12 hF12
    go_wp2_with fail
    (with_reducible refine (sums_0 l A' n' c' v12 (hr.bel hK12) hn (by omega) hc hb (hT.below hK12 (Nat.le_refl _))).mono ?_)
    rintro e v13 ⟨A13, c13, rfl, hF13, hb13⟩
    have hK13 := bnx hK12 hb13 hK12.size
    have hRX := hF13.rd
    have hBX_13 := Below.refl v13.heap.size v13
    clear hK12 hb13 hF13
    go_wp2_with fail
    (with_reducible refine (one_0 l A' n' c' v13.heap.size v13 (hr.bel hK13) (Nat.le_refl _) hn (by omega) hc hb (hT.below hK13 (Nat.le_refl _))).mono ?_)
    rintro e v14 ⟨A14, c14, rfl, hF14, hb14⟩
    have hK14 := bnx hK13 hb14 hK13.size
    have hBX_14 := bnx hBX_13 hb14 hBX_13.size
    have hRZ := hF14.rd
    have hBZ_14 := Below.refl v14.heap.size v14
    clear hK13 hBX_13 hb14 hF14
    go_wp2_with fail
    (with_reducible refine (same_is v14 A13 A14 (sumK 0 l) 32 c13 c14 v14.heap.size v14.heap.size (hRX.bel hBX_14) (hRZ.bel hBZ_14) (sumK_len_0 l) (by omega)).mono ?_)
    rintro e v15 ⟨rfl, q15, rfl⟩
    have hK15 := bdr hK14 q15
    have hBX_15 := bdr hBX_14 q15
    have hBZ_15 := bdr hBZ_14 q15
    generalize v14.drewN q15 = v15 at hK15 hBX_15 hBZ_15 ⊢
    clear hK14 hBX_14 hBZ_14
    clear hRX hRZ hBX_15 hBZ_15
    go_wp2_with fail
    (with_reducible refine (sums_1 l A' n' c' v15 (hr.bel hK15) hn (by omega) hc hb (hT.below hK15 (Nat.le_refl _))).mono ?_)
    rintro e v16 ⟨A16, c16, rfl, hF16, hb16⟩
    have hK16 := bnx hK15 hb16 hK15.size
    have hRX := hF16.rd
    have hBX_16 := Below.refl v16.heap.size v16
    clear hK15 hb16 hF16
    go_wp2_with fail
    (with_reducible refine (one_1 l A' n' c' v16.heap.size v16 (hr.bel hK16) (Nat.le_refl _) hn (by omega) hc hb (hT.below hK16 (Nat.le_refl _))).mono ?_)
    rintro e v17 ⟨A17, c17, rfl, hF17, hb17⟩
    have hK17 := bnx hK16 hb17 hK16.size
    have hBX_17 := bnx hBX_16 hb17 hBX_16.size
    have hRZ := hF17.rd
    have hBZ_17 := Below.refl v17.heap.size v17
    clear hK16 hBX_16 hb17 hF17
    go_wp2_with fail
    (with_reducible refine (same_is v17 A16 A17 (sumK 1 l) 64 c16 c17 v17.heap.size v17.heap.size (hRX.bel hBX_17) (hRZ.bel hBZ_17) (sumK_len_1 l) (by omega)).mono ?_)
    rintro e v18 ⟨rfl, q18, rfl⟩
    have hK18 := bdr hK17 q18
    have hBX_18 := bdr hBX_17 q18
    have hBZ_18 := bdr hBZ_17 q18
    generalize v17.drewN q18 = v18 at hK18 hBX_18 hBZ_18 ⊢
    clear hK17 hBX_17 hBZ_17
    clear hRX hRZ hBX_18 hBZ_18
    go_wp2_with fail
    go_ret
    exact ⟨rfl, hK18⟩
  by_cases h1 : k = 1
  · subst h1
    go_wp2_with fail
    (with_reducible refine (sizes_1 w1).mono ?_)
    rintro e v11 ⟨rfl, hb11⟩
    have hK11 := bnx hK1 hb11 hK1.size
    clear hK1 hb11
    go_wp2_with fail
    (with_reducible refine (sums_1 l A' n' c' v11 (hr.bel hK11) hn (by omega) hc hb (hT.below hK11 (Nat.le_refl _))).mono ?_)
    rintro e v12 ⟨A12, c12, rfl, hF12, hb12⟩
    have hK12 := bnx hK11 hb12 hK11.size
    clear hK11 hb12 hF12
    go_wp2_with fail
    (with_reducible refine (sums_0 l A' n' c' v12 (hr.bel hK12) hn (by omega) hc hb (hT.below hK12 (Nat.le_refl _))).mono ?_)
    rintro e v13 ⟨A13, c13, rfl, hF13, hb13⟩
    have hK13 := bnx hK12 hb13 hK12.size
    have hRX := hF13.rd
    have hBX_13 := Below.refl v13.heap.size v13
    clear hK12 hb13 hF13
    go_wp2_with fail
    (with_reducible refine (one_0 l A' n' c' v13.heap.size v13 (hr.bel hK13) (Nat.le_refl _) hn (by omega) hc hb (hT.below hK13 (Nat.le_refl _))).mono ?_)
    rintro e v14 ⟨A14, c14, rfl, hF14, hb14⟩
    have hK14 := bnx hK13 hb14 hK13.size
    have hBX_14 := bnx hBX_13 hb14 hBX_13.size
    have hRZ := hF14.rd
    have hBZ_14 := Below.refl v14.heap.size v14
    clear hK13 hBX_13 hb14 hF14
    go_wp2_with fail
    (with_reducible refine (same_is v14 A13 A14 (sumK 0 l) 32 c13 c14 v14.heap.size v14.heap.size (hRX.bel hBX_14) (hRZ.bel hBZ_14) (sumK_len_0 l) (by omega)).mono ?_)
    rintro e v15 ⟨rfl, q15, rfl⟩
    have hK15 := bdr hK14 q15
    have hBX_15 := bdr hBX_14 q15
    have hBZ_15 := bdr hBZ_14 q15
    generalize v14.drewN q15 = v15 at hK15 hBX_15 hBZ_15 ⊢
    clear hK14 hBX_14 hBZ_14
    clear hRX hRZ hBX_15 hBZ_15
    go_wp2_with fail
    (with_reducible refine (sums_1 l A' n' c' v15 (hr.bel hK15) hn (by omega) hc hb (hT.below hK15 (Nat.le_refl _))).mono ?_)
    rintro e v16 ⟨A16, c16, rfl, hF16, hb16⟩
    have hK16 := bnx hK15 hb16 hK15.size
    have hRX := hF16.rd
    have hBX_16 := Below.refl v16.heap.size v16
    clear hK15 hb16 hF16
    go_wp2_with fail
    (with_reducible refine (one_1 l A' n' c' v16.heap.size v16 (hr.bel hK16) (Nat.le_refl _) hn (by omega) hc hb (hT.below hK16 (Nat.le_refl _))).mono ?_)
    rintro e v17 ⟨A17, c17, rfl, hF17, hb17⟩
    have hK17 := bnx hK16 hb17 hK16.size
    have hBX_17 := bnx hBX_16 hb17 hBX_16.size
    have hRZ := hF17.rd
    have hBZ_17 := Below.refl v17.heap.size v17
    clear hK16 hBX_16 hb17 hF17
    go_wp2_with fail
    (with_reducible refine (same_is v17 A16 A17 (sumK 1 l) 64 c16 c17 v17.heap.size v17.heap.size (hRX.bel hBX_17) (hRZ.bel hBZ_17) (sumK_len_1 l) (by omega)).mono ?_)
    rintro e v18 ⟨rfl, q18, rfl⟩
    have hK18 := bdr hK17 q18
    have hBX_18 := bdr hBX_17 q18
    have hBZ_18 := bdr hBZ_17 q18
    generalize v17.drewN q18 = v18 at hK18 hBX_18 hBZ_18 ⊢
    clear hK17 hBX_17 hBZ_17
    clear hRX hRZ hBX_18 hBZ_18
    go_wp2_with fail
    go_ret
    exact ⟨rfl, hK18⟩
  have hko : k < 0 ∨ 2 ≤ k := by omega
  have hb0 : (k != 0) = true := by simpa using h0
  have hb1 : (k != 1) = true := by simpa using h1
  go_wp2_with fail
  (with_reducible refine (sizes_no k w1 hko).mono ?_)
  rintro e v11 ⟨rfl, hb11⟩
  have hK11 := bnx hK1 hb11 hK1.size
  clear hK1 hb11
  go_wp2_with fail
  (with_reducible refine (sums_no k _ v11 hko).mono ?_)
  rintro e v12 ⟨rfl, hb12⟩
  have hK12 := bnx hK11 hb12 hK11.size
  clear hK11 hb12
  go_wp2_with fail
  (with_reducible refine (mac_no k _ _ v12 hko).mono ?_)
  rintro e v13 ⟨rfl, hb13⟩
  have hK13 := bnx hK12 hb13 hK12.size
  clear hK12 hb13
  go_wp2_with fail
  (with_reducible refine (mask_no k 5 _ v13 hko).mono ?_)
  rintro e v14 ⟨rfl, hb14⟩
  have hK14 := bnx hK13 hb14 hK13.size
  clear hK13 hb14
  go_wp2_with fail
  go_ret
  exact ⟨rfl, hK14⟩
end Go.Proofs.YteidkdpfjponfaaDoor
