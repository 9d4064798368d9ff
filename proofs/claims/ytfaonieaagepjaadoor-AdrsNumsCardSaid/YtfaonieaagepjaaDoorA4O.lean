/- AdrsNums, walked. Conditions: what is read reads as bytes; the tables. -/
import Derived.Test.YtfaonieaagepjaaDoorA4K
import Derived.Test.YtfaonieaagepjaaDoorA4L
namespace Go.Proofs.YtfaonieaagepjaaDoor
open Go.RowKit
set_option linter.unusedVariables false
set_option linter.unusedSimpArgs false
set_option maxRecDepth 100000 in
set_option maxHeartbeats 4000000 in
theorem adrsNums_walk (k : Int) (key l : List Int) (A A' : Option Addr) (c c' : Nat) (w : World) (hk : B8 k) (h1 : Rd w w.heap.size .u8 A key) (hc : key.length ≤ c) (hcm : c ≤ 9223372036854775807) (hkb : Bys key)
    (h2 : Rd w w.heap.size .u8 A' l) (hc' : l.length ≤ c') (hcm' : c' ≤ 9223372036854775807) (hb : Bys l) (hS : S2Tb w) (hKT : KTab w) :
    Calls Tryd.prog 9 #[.int .u8 k, .slice A key.length c, .slice A' l.length c'] w fun e w' => e = .returned (.bool true) ∧ Below w.heap.size w w' := by
  obtain ⟨n, hn⟩ : ∃ n, key.length = n := ⟨_, rfl⟩
  obtain ⟨n', hn'⟩ : ∃ n, l.length = n := ⟨_, rfl⟩
  rw [hn] at hc ⊢
  rw [hn'] at hc' ⊢
  have hmx : (200000000 : Nat) ≤ maxLen := by decide
  go_enter Tryd.func9, Tryd.ntmps9
  go_wp2_with fail
  (with_reducible refine (awake14_any w hS hKT).mono ?_)
  rintro e v1 ⟨rfl, hb1⟩
  have hK1 := bnx (Below.refl w.heap.size w) hb1 (Below.refl w.heap.size w).size
  clear hb1
  by_cases hgn : 500 < n
  · have hgnI : (500 : Int) < (n : Int) := by omega
    go_wp2_with fail
    go_ret
    exact ⟨rfl, hK1⟩
  have hgnI : ¬ (500 : Int) < (n : Int) := by omega
  by_cases hgn2 : 500 < n'
  · have hgn2I : (500 : Int) < (n' : Int) := by omega
    go_wp2_with fail
    go_ret
    exact ⟨rfl, hK1⟩
  have hgn2I : ¬ (500 : Int) < (n' : Int) := by omega
  go_upto_region 6 with (refine wpList_make_nums rfl _ _ 24 rfl 5 .u8 1 Tryd.underlying24 inf_u8 .i64 .i64 32 32 32 32 rfl rfl rfl rfl (by decide) (by decide) (by decide) ?_; intro wm hwm)
  have hO : Own wm v1.heap.size 5 .u8 (.slice (some ⟨v1.heap.size, 0, none⟩) 32 32) (List.replicate 32 0) := by rw [hwm.out]; exact Own.made v1 32 (Nat.le_refl _) (by decide)
  have K1 : Kept v1.heap.size (fun _ => False) v1 wm := by rw [hwm.out]; exact (Kept.refl _ _ _).alloc _ (Nat.le_refl _)
  have hcell := hO.cell 31 (by simp)
  have hfree := hO.free 31
  have hO2 := hO.stored 31 k
  have K2 := K1.set v1.heap.size 31 (.int .u8 k) (.inl (Nat.le_refl _))
  have est : st (List.replicate 32 0) 31 k = zrw 31 ++ [k] := rfl
  rw [est] at hO2
  go_upto_region 7 with fail
  generalize wm.setCell ⟨v1.heap.size, 31, none⟩ (.int .u8 k) = w2 at hO2 K2 ⊢
  have KB := bnx hK1 K2.below hK1.size
  have R0 := hO2.rd
  obtain ⟨hd, hhd⟩ : ∃ q, zrw 31 ++ [k] = q := ⟨_, rfl⟩
  have hdl : hd.length = 32 := by rw [← hhd]; rfl
  have hdb : Bys hd := by rw [← hhd]; exact (zrw_B 31).append (Bys.one hk)
  rw [hhd] at R0
  have HHD := Lib.hid hhd
  clear hO K1 hcell hfree hO2 K2 est hwm hK1 hhd
  have hOe := Own.lit (b := w2.heap.size) (e := 5) (k := .u8) w2 [] (by omega) (Nat.zero_le _)
  have hRe := R0.alloc (Nat.le_refl _) (.cells #[] 5)
  have hKe := bal KB KB.size (.cells #[] 5)
  have hKf := (Kept.refl w2.heap.size (fun _ => False) w2).alloc (.cells #[] 5) (Nat.le_refl _)
  have hz0 : (w2.alloc (.cells #[] 5)).heap.size = w2.heap.size + 1 := by simp
  go_upto_region 8 with (first
    | (
        at_builtin
        refine wpList_app rfl (.tmp 27) (.tmp 28) 24 5 .u8 1 rfl Tryd.underlying24 inf_u8 hOp hR2 rfl rfl hn' T2 HN2.out.2 N2 hT2l (by have := HN1.out.1; have := HN2.out.1; omega) (by have := HN1.out.1; have := HN2.out.1; omega) hs4 ?_
        intro Aq cq vc hOq hgq hfq)
    | (
        at_builtin
        refine wpList_app rfl (.tmp 25) (.tmp 26) 24 5 .u8 1 rfl Tryd.underlying24 inf_u8 hOo hR1 rfl rfl hn T1 HN1.out.2 N1 hT1l (by have := HN1.out.1; omega) (by have := HN1.out.1; omega) hs3 ?_
        intro Ap cp vb hOp hgp hfp
        have K4 := K3.grew hOo hgp (Nat.le_refl _) hs3
        have hR2 := ((h2.bel KB).below K4.below).more (B' := vb.heap.size) (by have := hgp.size; omega)
        obtain ⟨T2, hT2⟩ : ∃ q, T1 ++ l = q := ⟨_, rfl⟩
        obtain ⟨N2, hN2⟩ : ∃ q, N1 + n' = q := ⟨_, rfl⟩
        have hT2l : T2.length = N2 := by rw [← hT2, List.length_append, hT1l, hn', hN2]
        have HN2 := Lib.hid (And.intro hN2 hT2)
        have hs4 : w2.heap.size ≤ vb.heap.size := by have := hgp.size; omega)
    | (
        at_builtin
        refine wpList_app rfl (.tmp 23) (.tmp 24) 24 5 .u8 1 rfl Tryd.underlying24 inf_u8 hOe hRe rfl rfl hdl hd rfl 32 hdl (by decide) (by decide) (by simp) ?_
        intro Ao co va hOo hgo hfo
        have K3 := hKf.grew hOe hgo (Nat.le_refl _) (by simp)
        have hR1 := ((h1.bel KB).below K3.below).more (B' := va.heap.size) (by have := hgo.size; omega)
        obtain ⟨T1, hT1⟩ : ∃ q, hd ++ key = q := ⟨_, rfl⟩
        obtain ⟨N1, hN1⟩ : ∃ q, 32 + n = q := ⟨_, rfl⟩
        have hT1l : T1.length = N1 := by rw [← hT1, List.length_append, hdl, hn, hN1]
        have HN1 := Lib.hid (And.intro hN1 hT1)
        have hs3 : w2.heap.size ≤ va.heap.size := by have := hgo.size; omega))
  have K5 := K4.grew hOp hgq (Nat.le_refl _) hs4
  have hKc := bnx KB K5.below KB.size
  have hRq := hOq.rd
  have hBq := Below.refl vc.heap.size vc
  have hbT : Bys T2 := by rw [← hT2, ← hT1]; exact (hdb.append hkb).append hb
  have hnum : sum2 T2 = numL k key l := by rw [← hT2, ← hT1, ← HHD.out]; rfl
  have hN2b : N2 ≤ 2000 := by have := HN1.out.1; have := HN2.out.1; omega
  clear hOq hgq hfq hOp hR2 K4 K5 KB hT1 hT2 R0 hdb hdl hT1l hOo hR1 K3 hgp hfp hN2 hOe hRe hKe hKf hgo hfo hN1
  go_wp2_with fail
  (with_reducible refine (num_any k key l A A' n c n' c' vc hk (h1.bel hKc) hn (by omega) (by omega) hkb (h2.bel hKc) hn' (by omega) (by omega) hb (hS.below hKc (Nat.le_refl _))).mono ?_)
  rintro e v21 ⟨A21, c21, rfl, hF21, hb21⟩
  have hK21 := bnx hKc hb21 hKc.size
  have hBq_21 := bnx hBq hb21 hBq.size
  have hRX := hF21.rd
  have hBX_21 := Below.refl v21.heap.size v21
  clear hKc hBq hb21 hF21
  go_wp2_with fail
  (with_reducible refine (one2_any T2 (numL k key l) Aq N2 cq v21.heap.size v21 hnum (hRq.bel hBq_21) (Nat.le_refl _) hT2l (by omega) hbT (hS.below hK21 (Nat.le_refl _))).mono ?_)
  rintro e v22 ⟨A22, c22, rfl, hF22, hb22⟩
  have hK22 := bnx hK21 hb22 hK21.size
  have hBq_22 := bnx hBq_21 hb22 hBq_21.size
  have hBX_22 := bnx hBX_21 hb22 hBX_21.size
  have hRZ := hF22.rd
  have hBZ_22 := Below.refl v22.heap.size v22
  clear hK21 hBq_21 hBX_21 hb22 hF22
  go_wp2_with fail
  (with_reducible refine (same_is_b v22 A21 A22 (numL k key l) 32 c21 c22 (hRX.bel hBX_22) (hRZ.bel hBZ_22) (numL_len _ _ _) (by decide)).mono ?_)
  rintro e v23 ⟨rfl, hb23⟩
  have hK23 := bnx hK22 hb23 hK22.size
  have hBq_23 := bnx hBq_22 hb23 hBq_22.size
  have hBX_23 := bnx hBX_22 hb23 hBX_22.size
  have hBZ_23 := bnx hBZ_22 hb23 hBZ_22.size
  clear hK22 hBq_22 hBX_22 hBZ_22 hb23
  clear hRX hRZ hBX_23 hBZ_23
  go_wp2_with fail
  (with_reducible refine (prf_any key l A A' n c n' c' v23 (h1.bel hK23) hn (by omega) (by omega) hkb (h2.bel hK23) hn' (by omega) (by omega) hb (hS.below hK23 (Nat.le_refl _))).mono ?_)
  rintro e v24 ⟨A24, c24, rfl, hF24, hb24⟩
  have hK24 := bnx hK23 hb24 hK23.size
  have hBq_24 := bnx hBq_23 hb24 hBq_23.size
  have hRX := hF24.rd
  have hBX_24 := Below.refl v24.heap.size v24
  clear hK23 hBq_23 hb24 hF24
  go_wp2_with fail
  (with_reducible refine (num_any 3 key l A A' n c n' c' v24 (by unfold B8; decide) (h1.bel hK24) hn (by omega) (by omega) hkb (h2.bel hK24) hn' (by omega) (by omega) hb (hS.below hK24 (Nat.le_refl _))).mono ?_)
  rintro e v25 ⟨A25, c25, rfl, hF25, hb25⟩
  have hK25 := bnx hK24 hb25 hK24.size
  have hBq_25 := bnx hBq_24 hb25 hBq_24.size
  have hBX_25 := bnx hBX_24 hb25 hBX_24.size
  have hRZ := (show Rd v25 v25.heap.size .u8 A25 (prfL key l) from hF25.rd)
  have hBZ_25 := Below.refl v25.heap.size v25
  clear hK24 hBq_24 hBX_24 hb25 hF25
  go_wp2_with fail
  (with_reducible refine (same_is_b v25 A24 A25 (prfL key l) 32 c24 c25 (hRX.bel hBX_25) (hRZ.bel hBZ_25) (prfL_len _ _) (by decide)).mono ?_)
  rintro e v26 ⟨rfl, hb26⟩
  have hK26 := bnx hK25 hb26 hK25.size
  have hBq_26 := bnx hBq_25 hb26 hBq_25.size
  have hBX_26 := bnx hBX_25 hb26 hBX_25.size
  have hBZ_26 := bnx hBZ_25 hb26 hBZ_25.size
  clear hK25 hBq_25 hBX_25 hBZ_25 hb26
  clear hRX hRZ hBX_26 hBZ_26
  go_wp2_with fail
  go_ret
  exact ⟨rfl, hK26⟩
end Go.Proofs.YtfaonieaagepjaaDoor
