/- Layer 14: what is asked before a statement, walked. Conditions: the tables. -/
import Derived.Test.YtfaonieaagepjaaDoorA4J
import Derived.Test.YtfaonieaagepjaaDoorZG
namespace Go.Proofs.YtfaonieaagepjaaDoor
open Go.RowKit
set_option linter.unusedVariables false
set_option linter.unusedSimpArgs false
theorem Rd.tk {w : World} {B : Nat} {k : IntKind} {A : Option Addr} {l : List Int} (h : Rd w B k A l) (m : Nat) : Rd w B k A (l.take m) := fun hn => by
  obtain ⟨g, e, h1, h2⟩ := h (by rw [List.length_take] at hn; omega)
  refine ⟨g, e, h1, fun i hi => ?_⟩
  rw [List.length_take] at hi
  rw [gt_take _ _ _ (by omega)]
  exact h2 i (by omega)
def Ad.z : Ad := ⟨0, 0, 0, 0, 0, 0⟩
def Ad.y : Ad := ⟨1, 0, 0, 0, 0, 2⟩
theorem Ad.z_ok : Ad.z.ok := by constructor <;> (try unfold W32) <;> decide
theorem Ad.y_ok : Ad.y.ok := by constructor <;> (try unfold W32) <;> decide
theorem bytes_y (w : World) : Calls Tryd.prog 29 #[.agg #[.int .u32 1, .int .u64 0, .int .u32 0, .int .u32 0, .int .u32 0, .int .u32 2], .int .u32 3] w (OutP w (adB Ad.y 3) 32) := bytes_any Ad.y 3 w Ad.y_ok (by unfold W32; decide)
theorem plain_y (w : World) : Calls Tryd.prog 31 #[.agg #[.int .u32 1, .int .u64 0, .int .u32 0, .int .u32 0, .int .u32 0, .int .u32 2]] w (OutP w (adP Ad.y) 32) := plain_any Ad.y w Ad.y_ok
theorem f_z (A : Option Addr) (n : Nat) (w : World) (h1 : Rd w w.heap.size .u8 A (zrw 32)) (hT : S2Tb w) : Calls Tryd.prog 37 #[.slice A 32 32, .agg #[.int .u32 0, .int .u64 0, .int .u32 0, .int .u32 0, .int .u32 0, .int .u32 0], .slice A 32 32] w (OutP w (fL (zrw 32) Ad.z (zrw 32)) 32) :=
  f_any (zrw 32) Ad.z (zrw 32) A A 32 32 32 32 w Ad.z_ok h1 rfl (by decide) (b6 _ (by decide)) h1 rfl (by decide) (b6 _ (by decide)) hT ⟨rfl, rfl⟩
theorem h_z (A : Option Addr) (c : Nat) (w : World) (hc : 31 ≤ c) (h1 : Rd w w.heap.size .u8 A (zrw 32)) (hT : S2Tb w) : Calls Tryd.prog 39 #[.slice A 32 32, .agg #[.int .u32 0, .int .u64 0, .int .u32 0, .int .u32 0, .int .u32 0, .int .u32 0], .slice A 32 32, .slice A 31 c] w (NilP w) :=
  h_no (zrw 32) Ad.z (zrw 32) (zrw 31) A A A 32 32 32 32 31 c w Ad.z_ok h1 rfl (by decide) (b6 _ (by decide)) h1 rfl (by decide) (b6 _ (by decide)) (h1.tk 31) rfl hc (b6 _ (by decide)) hT (by decide)
theorem tw_z (A : Option Addr) (c : Nat) (w : World) (hc : 24 ≤ c) (h1 : Rd w w.heap.size .u8 A (zrw 32)) (hT : KTab w) : Calls Tryd.prog 41 #[.int .i64 24, .slice A 24 c, .agg #[.int .u32 0, .int .u64 0, .int .u32 0, .int .u32 0, .int .u32 0, .int .u32 0], .slice none 0 0] w (OutP w (twL 24 (zrw 24) Ad.z []) 24) :=
  tw_24 (zrw 24) Ad.z [] A none 24 c 0 0 24 w Ad.z_ok (h1.tk 24) rfl hc (b6 _ (by decide)) Rd.nil rfl (Nat.le_refl _) (Nat.zero_le _) (b6 _ (by decide)) hT rfl rfl
theorem vb3 : gt (adB Ad.y 3) 3 = 1 := by decide +kernel
theorem vb27 : gt (adB Ad.y 3) 27 = 2 := by decide +kernel
theorem vb31 : gt (adB Ad.y 3) 31 = 3 := by decide +kernel
theorem vp31 : gt (adP Ad.y) 31 = 2 := by decide +kernel
set_option maxRecDepth 100000 in
set_option maxHeartbeats 2000000 in
theorem awake14_any (w : World) (hS : S2Tb w) (hK : KTab w) :
    Calls Tryd.prog 28 #[] w fun e w' => e = .returned (.bool true) ∧ Below w.heap.size w w' := by
  go_enter Tryd.func28, Tryd.ntmps28
  go_wp2_with fail
  (with_reducible refine (bytes_y w).mono ?_)
  rintro e v1 ⟨A1, c1, rfl, hF1, hb1⟩
  have hK1 := bnx (Below.refl w.heap.size w) hb1 (Below.refl w.heap.size w).size
  obtain ⟨gb, rfl, hg1, hg2, hgc⟩ := hF1.at_ (by have := adB_len Ad.y 3; omega)
  have hca : v1.cell? ⟨gb, 3, none⟩ = _ := (hgc 3 (by have := adB_len Ad.y 3; omega)).1
  have hcb : v1.cell? ⟨gb, 27, none⟩ = _ := (hgc 27 (by have := adB_len Ad.y 3; omega)).1
  have hcc : v1.cell? ⟨gb, 31, none⟩ = _ := (hgc 31 (by have := adB_len Ad.y 3; omega)).1
  rw [vb3] at hca
  rw [vb27] at hcb
  rw [vb31] at hcc
  have hg3 := hg2
  have hg4 := hg2
  clear hb1 hF1 hgc hg1
  go_wp2_with fail
  (with_reducible refine (plain_y v1).mono ?_)
  rintro e v2 ⟨A2, c2, rfl, hF2, hb2⟩
  have hK2 := bnx hK1 hb2 hK1.size
  have hca_2 := cell_bel hca hb2 hg2
  have hla_2 := Nat.lt_of_lt_of_le hg2 hb2.size
  have hcb_2 := cell_bel hcb hb2 hg3
  have hlb_2 := Nat.lt_of_lt_of_le hg3 hb2.size
  have hcc_2 := cell_bel hcc hb2 hg4
  have hlc_2 := Nat.lt_of_lt_of_le hg4 hb2.size
  obtain ⟨gp, rfl, hg1, hg5, hgc⟩ := hF2.at_ (by have := adP_len Ad.y; omega)
  have hcd : v2.cell? ⟨gp, 31, none⟩ = _ := (hgc 31 (by have := adP_len Ad.y; omega)).1
  rw [vp31] at hcd
  clear hK1 hca hg2 hcb hg3 hcc hg4 hb2 hF2 hgc hg1
  go_upto_region 4 with (refine wpList_make_nums rfl _ _ 24 rfl 5 .u8 1 Tryd.underlying24 inf_u8 .i64 .i64 32 32 32 32 rfl rfl rfl rfl (by decide) (by decide) (by decide) ?_; intro wm hwm)
  have hRs : Rd wm wm.heap.size .u8 (some ⟨v2.heap.size, 0, none⟩) (zrw 32) := by rw [hwm.out]; exact Rd.of_arr (Arr.new v2 5 .u8 (zrw 32)) (by simp)
  have hq := hwm.out
  have hK3 := bal hK2 hK2.size (.cells (U .u8 (List.replicate 32 0)) 5)
  have hca_3 := cell_al hca_2 hla_2 (.cells (U .u8 (List.replicate 32 0)) 5)
  have hla_3 := Nat.lt_of_lt_of_le hla_2 (al_le v2 (.cells (U .u8 (List.replicate 32 0)) 5))
  have hcb_3 := cell_al hcb_2 hlb_2 (.cells (U .u8 (List.replicate 32 0)) 5)
  have hlb_3 := Nat.lt_of_lt_of_le hlb_2 (al_le v2 (.cells (U .u8 (List.replicate 32 0)) 5))
  have hcc_3 := cell_al hcc_2 hlc_2 (.cells (U .u8 (List.replicate 32 0)) 5)
  have hlc_3 := Nat.lt_of_lt_of_le hlc_2 (al_le v2 (.cells (U .u8 (List.replicate 32 0)) 5))
  have hcd_3 := cell_al hcd hg5 (.cells (U .u8 (List.replicate 32 0)) 5)
  have hld_3 := Nat.lt_of_lt_of_le hg5 (al_le v2 (.cells (U .u8 (List.replicate 32 0)) 5))
  rw [← hq] at hK3 hca_3 hla_3 hcb_3 hlb_3 hcc_3 hlc_3 hcd_3 hld_3
  have hBs := Below.refl wm.heap.size wm
  clear hq hwm hK2 hca_2 hla_2 hcb_2 hlb_2 hcc_2 hlc_2 hcd hg5
  go_wp2_with fail
  (with_reducible refine (f_z (some ⟨v2.heap.size, 0, none⟩) 32 wm (hRs.bel hBs) (hS.below hK3 (Nat.le_refl _))).mono ?_)
  rintro e v4 ⟨A4, c4, rfl, hF4, hb4⟩
  have hK4 := bnx hK3 hb4 hK3.size
  have hBs_4 := bnx hBs hb4 hBs.size
  have hca_4 := cell_bel hca_3 hb4 hla_3
  have hla_4 := Nat.lt_of_lt_of_le hla_3 hb4.size
  have hcb_4 := cell_bel hcb_3 hb4 hlb_3
  have hlb_4 := Nat.lt_of_lt_of_le hlb_3 hb4.size
  have hcc_4 := cell_bel hcc_3 hb4 hlc_3
  have hlc_4 := Nat.lt_of_lt_of_le hlc_3 hb4.size
  have hcd_4 := cell_bel hcd_3 hb4 hld_3
  have hld_4 := Nat.lt_of_lt_of_le hld_3 hb4.size
  clear hK3 hBs hca_3 hla_3 hcb_3 hlb_3 hcc_3 hlc_3 hcd_3 hld_3 hb4 hF4
  go_wp2_with fail
  (with_reducible refine (h_z (some ⟨v2.heap.size, 0, none⟩) 32 v4 (by decide) (hRs.bel hBs_4) (hS.below hK4 (Nat.le_refl _))).mono ?_)
  rintro e v5 ⟨rfl, hb5⟩
  have hK5 := bnx hK4 hb5 hK4.size
  have hBs_5 := bnx hBs_4 hb5 hBs_4.size
  have hca_5 := cell_bel hca_4 hb5 hla_4
  have hla_5 := Nat.lt_of_lt_of_le hla_4 hb5.size
  have hcb_5 := cell_bel hcb_4 hb5 hlb_4
  have hlb_5 := Nat.lt_of_lt_of_le hlb_4 hb5.size
  have hcc_5 := cell_bel hcc_4 hb5 hlc_4
  have hlc_5 := Nat.lt_of_lt_of_le hlc_4 hb5.size
  have hcd_5 := cell_bel hcd_4 hb5 hld_4
  have hld_5 := Nat.lt_of_lt_of_le hld_4 hb5.size
  clear hK4 hBs_4 hca_4 hla_4 hcb_4 hlb_4 hcc_4 hlc_4 hcd_4 hld_4 hb5
  go_wp2_with fail
  (with_reducible refine (tw_z (some ⟨v2.heap.size, 0, none⟩) 32 v5 (by decide) (hRs.bel hBs_5) (hK.bel hK5)).mono ?_)
  rintro e v6 ⟨A6, c6, rfl, hF6, hb6⟩
  have hK6 := bnx hK5 hb6 hK5.size
  have hBs_6 := bnx hBs_5 hb6 hBs_5.size
  have hca_6 := cell_bel hca_5 hb6 hla_5
  have hla_6 := Nat.lt_of_lt_of_le hla_5 hb6.size
  have hcb_6 := cell_bel hcb_5 hb6 hlb_5
  have hlb_6 := Nat.lt_of_lt_of_le hlb_5 hb6.size
  have hcc_6 := cell_bel hcc_5 hb6 hlc_5
  have hlc_6 := Nat.lt_of_lt_of_le hlc_5 hb6.size
  have hcd_6 := cell_bel hcd_5 hb6 hld_5
  have hld_6 := Nat.lt_of_lt_of_le hld_5 hb6.size
  clear hK5 hBs_5 hca_5 hla_5 hcb_5 hlb_5 hcc_5 hlc_5 hcd_5 hld_5 hb6 hF6
  go_wp2_with fail
  go_ret
  exact ⟨rfl, hK6⟩
end Go.Proofs.YtfaonieaagepjaaDoor
