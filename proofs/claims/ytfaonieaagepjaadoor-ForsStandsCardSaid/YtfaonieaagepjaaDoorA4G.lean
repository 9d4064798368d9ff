/- Layer 14: sums with masks, walked. Conditions: small lengths; the tables. -/
import Derived.Test.YtfaonieaagepjaaDoorA4F
import Derived.Deep.DeepCutAuto
import Derived.Deep.CutBlock
namespace Go.Proofs.YtfaonieaagepjaaDoor
open Go.RowKit
set_option linter.unusedVariables false
set_option linter.unusedSimpArgs false
def fL (seed : List Int) (d : Ad) (x : List Int) : List Int := numL 0 (prfL seed (adB d 0)) (xorL x (prfL seed (adB d 1)))
def hL (seed : List Int) (d : Ad) (x y : List Int) : List Int := numL 1 (prfL seed (adB d 0)) (xorL x (prfL seed (adB d 1)) ++ xorL y (prfL seed (adB d 2)))
theorem fL_len (seed : List Int) (d : Ad) (x : List Int) : (fL seed d x).length = 32 := numL_len _ _ _
theorem hL_len (seed : List Int) (d : Ad) (x y : List Int) : (hL seed d x y).length = 32 := numL_len _ _ _
theorem fL_B (seed : List Int) (d : Ad) (x : List Int) : Bys (fL seed d x) := numL_B _ _ _
theorem hL_B (seed : List Int) (d : Ad) (x y : List Int) : Bys (hL seed d x y) := numL_B _ _ _
theorem W32.small {k : Int} (h0 : 0 ≤ k) (h : k < 10) : W32 k := ⟨h0, by omega⟩
set_option maxRecDepth 100000 in
set_option maxHeartbeats 2000000 in
theorem f_any (seed : List Int) (d : Ad) (x : List Int) (A : Option Addr) (A' : Option Addr) (n c n' c' : Nat) (w : World) (hd : d.ok) (h1 : Rd w w.heap.size .u8 A seed) (hn : seed.length = n) (hc : n ≤ c) (hb : Bys seed) (h2 : Rd w w.heap.size .u8 A' x) (hn' : x.length = n') (hc' : n' ≤ c') (hb2 : Bys x) (hT : S2Tb w) (hok : n = 32 ∧ n' = 32) :
    Calls Tryd.prog 37 #[.slice A n c, .agg d.cs, .slice A' n' c'] w (OutP w (fL seed d x) 32) := by
  obtain ⟨rfl, rfl⟩ := hok
  have hall : allN [seed, x] 32 = true := by simp [allN, hn, hn']
  have hX := Blk.new w 46 d.cs
  have hK0 := bal (Below.refl w.heap.size w) (Nat.le_refl _) (.cells d.cs 46)
  have hl0 := hX.lt
  go_enter Tryd.func37, Tryd.ntmps37
  go_upto_region 1 with fail
  change Code.wp _ _ _ _ (w.alloc (.cells d.cs 46))
  generalize w.alloc (.cells d.cs 46) = w0 at hX hK0 hl0 ⊢
  go_wp2_with fail
  have hP := parts_of (w := w0) (T := 24) [.slice A 32 c, .slice A' 32 c'] [seed, x] rfl (fun i hi => match i, hi with | 0, _ => (h1.bel hK0).pt hn hc | 1, _ => (h2.bel hK0).pt hn' hc' | m + 2, h => absurd h (by simp))
  have hz1 : (w0.alloc (.cells #[.slice A 32 c, .slice A' 32 c'] 24)).heap.size = w0.heap.size + 1 := by simp
  have hK1 := bal hK0 hK0.size (.cells #[.slice A 32 c, .slice A' 32 c'] 24)
  have hcx_1 := hX.alloc (.cells #[.slice A 32 c, .slice A' 32 c'] 24)
  have hlx_1 := Nat.lt_of_lt_of_le hl0 (al_le w0 (.cells #[.slice A 32 c, .slice A' 32 c'] 24))
  change Calls _ _ _ (w0.alloc (.cells #[.slice A 32 c, .slice A' 32 c'] 24)) _
  change Parts (w0.alloc (.cells #[.slice A 32 c, .slice A' 32 c'] 24)) _ _ _ at hP
  generalize w0.alloc (.cells #[.slice A 32 c, .slice A' 32 c'] 24) = v1 at hK1 hcx_1 hlx_1 hz1 hP ⊢
  clear hK0 hX hl0
  (with_reducible refine (right_any [seed, x] (some ⟨w0.heap.size, 0, none⟩) 2 (w0.heap.size + 1) 2 32 32 v1 rfl hP rfl (by decide)).mono ?_)
  rintro e u1 ⟨rfl, hu⟩
  subst u1
  rw [hall]
  clear hP hall hz1
  go_wp2_with (refine wpList_load_row (o := ⟨some 14, _, _, _, _, _⟩) rfl 46 _ rfl w.heap.size rfl _ d.cs (0, 0) _ hcx_1 Tryd.underlying46 rfl (by kernel_rfl) ?_)
  (with_reducible refine (parts_fn A 32 c d v1).mono ?_)
  rintro e u2 ⟨rfl, hu2⟩
  have hp0 : (v1.alloc (.cells #[.slice A 32 c] 24)).cell? ⟨v1.heap.size, 0, none⟩ = some (.slice A 32 c) := (Blk.new v1 24 #[.slice A 32 c]).cell 0 _ rfl
  have hpa := cell_al hp0 (by simp) (.cells d.cs 46)
  have hq0 := Blk.new (v1.alloc (.cells #[.slice A 32 c] 24)) 46 d.cs
  have hKa := bal (bal hK1 hK1.size (.cells #[.slice A 32 c] 24)) (Nat.le_trans hK1.size (al_le _ _)) (.cells d.cs 46)
  have hqs : (v1.alloc (.cells #[.slice A 32 c] 24)).heap.size = v1.heap.size + 1 := by simp
  have hzs : ((v1.alloc (.cells #[.slice A 32 c] 24)).alloc (.cells d.cs 46)).heap.size = v1.heap.size + 2 := by simp
  rw [← hu2] at hpa hq0 hKa hzs
  rw [hqs] at hq0
  have hpl : v1.heap.size < u2.heap.size := by omega
  have hql : v1.heap.size + 1 < u2.heap.size := by omega
  clear hp0 hqs hu2 hzs hK1 hcx_1 hlx_1
  go_wp2_with fail
  (with_reducible refine (part_any 0 seed d A c v1.heap.size (v1.heap.size + 1) u2 (W32.small (by decide) (by decide)) hd (h1.bel hKa) hn hc hb (hT.below hKa (Nat.le_refl _)) hpa hq0 hpl).mono ?_)
  rintro e v3 ⟨A3, c3, rfl, hF3, hb3⟩
  have hK3 := bnx hKa hb3 hKa.size
  have hcp_3 := cell_bel hpa hb3 hpl
  have hlp_3 := Nat.lt_of_lt_of_le hpl hb3.size
  have hcq_3 := hq0.below hb3 hql
  have hlq_3 := Nat.lt_of_lt_of_le hql hb3.size
  have hca : 32 ≤ c3 := by have := hF3.cap; rw [prfL_len] at this; exact this
  have hRa := hF3.rd
  have hBa_3 := Below.refl v3.heap.size v3
  clear hKa hpa hpl hq0 hql hb3 hF3
  go_wp2_with fail
  (with_reducible refine (part_any 1 seed d A c v1.heap.size (v1.heap.size + 1) v3 (W32.small (by decide) (by decide)) hd (h1.bel hK3) hn hc hb (hT.below hK3 (Nat.le_refl _)) hcp_3 hcq_3 hlp_3).mono ?_)
  rintro e v4 ⟨A4, c4, rfl, hF4, hb4⟩
  have hK4 := bnx hK3 hb4 hK3.size
  have hBa_4 := bnx hBa_3 hb4 hBa_3.size
  have hcp_4 := cell_bel hcp_3 hb4 hlp_3
  have hlp_4 := Nat.lt_of_lt_of_le hlp_3 hb4.size
  have hcq_4 := hcq_3.below hb4 hlq_3
  have hlq_4 := Nat.lt_of_lt_of_le hlq_3 hb4.size
  have hcb : 32 ≤ c4 := by have := hF4.cap; rw [prfL_len] at this; exact this
  have hRb := hF4.rd
  have hBb_4 := Below.refl v4.heap.size v4
  clear hK3 hBa_3 hcp_3 hlp_3 hcq_3 hlq_3 hb4 hF4
  go_wp2_with fail
  (with_reducible refine (xor32_any x (prfL seed (adB d 1)) A' A4 c' c4 v4 (h2.bel hK4) (hRb.bel hBb_4) hn' (prfL_len _ _) hc' hb2 (prfL_B _ _)).mono ?_)
  rintro e v5 ⟨A5, c5, rfl, hF5, hb5⟩
  have hK5 := bnx hK4 hb5 hK4.size
  have hBa_5 := bnx hBa_4 hb5 hBa_4.size
  have hBb_5 := bnx hBb_4 hb5 hBb_4.size
  have hcp_5 := cell_bel hcp_4 hb5 hlp_4
  have hlp_5 := Nat.lt_of_lt_of_le hlp_4 hb5.size
  have hcq_5 := hcq_4.below hb5 hlq_4
  have hlq_5 := Nat.lt_of_lt_of_le hlq_4 hb5.size
  have hcx1 : 32 ≤ c5 := by have := hF5.cap; rw [xorL32_len _ _ hn' (prfL_len _ _)] at this; exact this
  have hRx1 := hF5.rd
  have hBx1_5 := Below.refl v5.heap.size v5
  clear hK4 hBa_4 hBb_4 hcp_4 hlp_4 hcq_4 hlq_4 hb5 hF5
  clear hRb hBb_5
  have hKl := hK5.size
  go_wp2_with fail
  (with_reducible refine (num_any 0 (prfL seed (adB d 0)) (xorL x (prfL seed (adB d 1))) A3 A5 32 c3 32 c5 v5 (by unfold B8; decide) (hRa.bel hBa_5) (prfL_len _ _) hca (by decide) (prfL_B _ _) (hRx1.bel hBx1_5) (xorL32_len _ _ hn' (prfL_len _ _)) hcx1 (by decide) (xorL_B _ _) (hT.below hK5 (Nat.le_refl _))).mono ?_)
  rintro e v6 ⟨A6, c6, rfl, hF6, hb6⟩
  have hK6 := bnx hK5 hb6 hK5.size
  have hBa_6 := bnx hBa_5 hb6 hBa_5.size
  have hBx1_6 := bnx hBx1_5 hb6 hBx1_5.size
  have hcp_6 := cell_bel hcp_5 hb6 hlp_5
  have hlp_6 := Nat.lt_of_lt_of_le hlp_5 hb6.size
  have hcq_6 := hcq_5.below hb6 hlq_5
  have hlq_6 := Nat.lt_of_lt_of_le hlq_5 hb6.size
  have hFz := hF6.low (b' := w.heap.size) hKl
  clear hK5 hBa_5 hBx1_5 hcp_5 hlp_5 hcq_5 hlq_5 hb6 hF6
  go_wp2_with fail
  go_ret
  exact ⟨_, _, rfl, hFz, hK6⟩
set_option maxRecDepth 100000 in
set_option maxHeartbeats 2000000 in
theorem f_no (seed : List Int) (d : Ad) (x : List Int) (A : Option Addr) (A' : Option Addr) (n c n' c' : Nat) (w : World) (hd : d.ok) (h1 : Rd w w.heap.size .u8 A seed) (hn : seed.length = n) (hc : n ≤ c) (hb : Bys seed) (h2 : Rd w w.heap.size .u8 A' x) (hn' : x.length = n') (hc' : n' ≤ c') (hb2 : Bys x) (hT : S2Tb w) (hok : ¬ (n = 32 ∧ n' = 32)) :
    Calls Tryd.prog 37 #[.slice A n c, .agg d.cs, .slice A' n' c'] w (NilP w) := by
  have hall : allN [seed, x] 32 = false := by
    cases hq : allN [seed, x] 32 with
    | false => rfl
    | true => exact absurd (by simpa [allN, hn, hn'] using hq) hok
  have hX := Blk.new w 46 d.cs
  have hK0 := bal (Below.refl w.heap.size w) (Nat.le_refl _) (.cells d.cs 46)
  have hl0 := hX.lt
  go_enter Tryd.func37, Tryd.ntmps37
  go_upto_region 1 with fail
  change Code.wp _ _ _ _ (w.alloc (.cells d.cs 46))
  generalize w.alloc (.cells d.cs 46) = w0 at hX hK0 hl0 ⊢
  go_wp2_with fail
  have hP := parts_of (w := w0) (T := 24) [.slice A n c, .slice A' n' c'] [seed, x] rfl (fun i hi => match i, hi with | 0, _ => (h1.bel hK0).pt hn hc | 1, _ => (h2.bel hK0).pt hn' hc' | m + 2, h => absurd h (by simp))
  have hz1 : (w0.alloc (.cells #[.slice A n c, .slice A' n' c'] 24)).heap.size = w0.heap.size + 1 := by simp
  have hK1 := bal hK0 hK0.size (.cells #[.slice A n c, .slice A' n' c'] 24)
  have hcx_1 := hX.alloc (.cells #[.slice A n c, .slice A' n' c'] 24)
  have hlx_1 := Nat.lt_of_lt_of_le hl0 (al_le w0 (.cells #[.slice A n c, .slice A' n' c'] 24))
  change Calls _ _ _ (w0.alloc (.cells #[.slice A n c, .slice A' n' c'] 24)) _
  change Parts (w0.alloc (.cells #[.slice A n c, .slice A' n' c'] 24)) _ _ _ at hP
  generalize w0.alloc (.cells #[.slice A n c, .slice A' n' c'] 24) = v1 at hK1 hcx_1 hlx_1 hz1 hP ⊢
  clear hK0 hX hl0
  (with_reducible refine (right_any [seed, x] (some ⟨w0.heap.size, 0, none⟩) 2 (w0.heap.size + 1) 2 32 32 v1 rfl hP rfl (by decide)).mono ?_)
  rintro e u1 ⟨rfl, hu⟩
  subst u1
  rw [hall]
  clear hP hall hz1
  go_wp2_with fail
  go_ret
  exact ⟨rfl, hK1⟩
set_option maxRecDepth 100000 in
set_option maxHeartbeats 2000000 in
theorem h_any (seed : List Int) (d : Ad) (x : List Int) (y : List Int) (A : Option Addr) (A' : Option Addr) (A2 : Option Addr) (n c n' c' n2 c2 : Nat) (w : World) (hd : d.ok) (h1 : Rd w w.heap.size .u8 A seed) (hn : seed.length = n) (hc : n ≤ c) (hb : Bys seed) (h2 : Rd w w.heap.size .u8 A' x) (hn' : x.length = n') (hc' : n' ≤ c') (hb2 : Bys x) (h3 : Rd w w.heap.size .u8 A2 y) (hn2 : y.length = n2) (hc2_ : n2 ≤ c2) (hb3 : Bys y) (hT : S2Tb w) (hok : n = 32 ∧ n' = 32 ∧ n2 = 32) :
    Calls Tryd.prog 39 #[.slice A n c, .agg d.cs, .slice A' n' c', .slice A2 n2 c2] w (OutP w (hL seed d x y) 32) := by
  obtain ⟨rfl, rfl, rfl⟩ := hok
  have hall : allN [seed, x, y] 32 = true := by simp [allN, hn, hn', hn2]
  have hX := Blk.new w 46 d.cs
  have hK0 := bal (Below.refl w.heap.size w) (Nat.le_refl _) (.cells d.cs 46)
  have hl0 := hX.lt
  go_enter Tryd.func39, Tryd.ntmps39
  go_upto_region 1 with fail
  change Code.wp _ _ _ _ (w.alloc (.cells d.cs 46))
  generalize w.alloc (.cells d.cs 46) = w0 at hX hK0 hl0 ⊢
  go_wp2_with fail
  have hP := parts_of (w := w0) (T := 24) [.slice A 32 c, .slice A' 32 c', .slice A2 32 c2] [seed, x, y] rfl (fun i hi => match i, hi with | 0, _ => (h1.bel hK0).pt hn hc | 1, _ => (h2.bel hK0).pt hn' hc' | 2, _ => (h3.bel hK0).pt hn2 hc2_ | m + 3, h => absurd h (by simp))
  have hz1 : (w0.alloc (.cells #[.slice A 32 c, .slice A' 32 c', .slice A2 32 c2] 24)).heap.size = w0.heap.size + 1 := by simp
  have hK1 := bal hK0 hK0.size (.cells #[.slice A 32 c, .slice A' 32 c', .slice A2 32 c2] 24)
  have hcx_1 := hX.alloc (.cells #[.slice A 32 c, .slice A' 32 c', .slice A2 32 c2] 24)
  have hlx_1 := Nat.lt_of_lt_of_le hl0 (al_le w0 (.cells #[.slice A 32 c, .slice A' 32 c', .slice A2 32 c2] 24))
  change Calls _ _ _ (w0.alloc (.cells #[.slice A 32 c, .slice A' 32 c', .slice A2 32 c2] 24)) _
  change Parts (w0.alloc (.cells #[.slice A 32 c, .slice A' 32 c', .slice A2 32 c2] 24)) _ _ _ at hP
  generalize w0.alloc (.cells #[.slice A 32 c, .slice A' 32 c', .slice A2 32 c2] 24) = v1 at hK1 hcx_1 hlx_1 hz1 hP ⊢
  clear hK0 hX hl0
  (with_reducible refine (right_any [seed, x, y] (some ⟨w0.heap.size, 0, none⟩) 3 (w0.heap.size + 1) 3 32 32 v1 rfl hP rfl (by decide)).mono ?_)
  rintro e u1 ⟨rfl, hu⟩
  subst u1
  rw [hall]
  clear hP hall hz1
  go_wp2_with (refine wpList_load_row (o := ⟨some 17, _, _, _, _, _⟩) rfl 46 _ rfl w.heap.size rfl _ d.cs (0, 0) _ hcx_1 Tryd.underlying46 rfl (by kernel_rfl) ?_)
  (with_reducible refine (parts_fn A 32 c d v1).mono ?_)
  rintro e u2 ⟨rfl, hu2⟩
  have hp0 : (v1.alloc (.cells #[.slice A 32 c] 24)).cell? ⟨v1.heap.size, 0, none⟩ = some (.slice A 32 c) := (Blk.new v1 24 #[.slice A 32 c]).cell 0 _ rfl
  have hpa := cell_al hp0 (by simp) (.cells d.cs 46)
  have hq0 := Blk.new (v1.alloc (.cells #[.slice A 32 c] 24)) 46 d.cs
  have hKa := bal (bal hK1 hK1.size (.cells #[.slice A 32 c] 24)) (Nat.le_trans hK1.size (al_le _ _)) (.cells d.cs 46)
  have hqs : (v1.alloc (.cells #[.slice A 32 c] 24)).heap.size = v1.heap.size + 1 := by simp
  have hzs : ((v1.alloc (.cells #[.slice A 32 c] 24)).alloc (.cells d.cs 46)).heap.size = v1.heap.size + 2 := by simp
  rw [← hu2] at hpa hq0 hKa hzs
  rw [hqs] at hq0
  have hpl : v1.heap.size < u2.heap.size := by omega
  have hql : v1.heap.size + 1 < u2.heap.size := by omega
  clear hp0 hqs hu2 hzs hK1 hcx_1 hlx_1
  go_wp2_with fail
  (with_reducible refine (part_any 0 seed d A c v1.heap.size (v1.heap.size + 1) u2 (W32.small (by decide) (by decide)) hd (h1.bel hKa) hn hc hb (hT.below hKa (Nat.le_refl _)) hpa hq0 hpl).mono ?_)
  rintro e v3 ⟨A3, c3, rfl, hF3, hb3⟩
  have hK3 := bnx hKa hb3 hKa.size
  have hcp_3 := cell_bel hpa hb3 hpl
  have hlp_3 := Nat.lt_of_lt_of_le hpl hb3.size
  have hcq_3 := hq0.below hb3 hql
  have hlq_3 := Nat.lt_of_lt_of_le hql hb3.size
  have hca : 32 ≤ c3 := by have := hF3.cap; rw [prfL_len] at this; exact this
  have hRa := hF3.rd
  have hBa_3 := Below.refl v3.heap.size v3
  clear hKa hpa hpl hq0 hql hb3 hF3
  go_wp2_with fail
  (with_reducible refine (part_any 1 seed d A c v1.heap.size (v1.heap.size + 1) v3 (W32.small (by decide) (by decide)) hd (h1.bel hK3) hn hc hb (hT.below hK3 (Nat.le_refl _)) hcp_3 hcq_3 hlp_3).mono ?_)
  rintro e v4 ⟨A4, c4, rfl, hF4, hb4⟩
  have hK4 := bnx hK3 hb4 hK3.size
  have hBa_4 := bnx hBa_3 hb4 hBa_3.size
  have hcp_4 := cell_bel hcp_3 hb4 hlp_3
  have hlp_4 := Nat.lt_of_lt_of_le hlp_3 hb4.size
  have hcq_4 := hcq_3.below hb4 hlq_3
  have hlq_4 := Nat.lt_of_lt_of_le hlq_3 hb4.size
  have hcb : 32 ≤ c4 := by have := hF4.cap; rw [prfL_len] at this; exact this
  have hRb := hF4.rd
  have hBb_4 := Below.refl v4.heap.size v4
  clear hK3 hBa_3 hcp_3 hlp_3 hcq_3 hlq_3 hb4 hF4
  go_wp2_with fail
  (with_reducible refine (xor32_any x (prfL seed (adB d 1)) A' A4 c' c4 v4 (h2.bel hK4) (hRb.bel hBb_4) hn' (prfL_len _ _) hc' hb2 (prfL_B _ _)).mono ?_)
  rintro e v5 ⟨A5, c5, rfl, hF5, hb5⟩
  have hK5 := bnx hK4 hb5 hK4.size
  have hBa_5 := bnx hBa_4 hb5 hBa_4.size
  have hBb_5 := bnx hBb_4 hb5 hBb_4.size
  have hcp_5 := cell_bel hcp_4 hb5 hlp_4
  have hlp_5 := Nat.lt_of_lt_of_le hlp_4 hb5.size
  have hcq_5 := hcq_4.below hb5 hlq_4
  have hlq_5 := Nat.lt_of_lt_of_le hlq_4 hb5.size
  have hcx1 : 32 ≤ c5 := by have := hF5.cap; rw [xorL32_len _ _ hn' (prfL_len _ _)] at this; exact this
  have hRx1 := hF5.rd
  have hBx1_5 := Below.refl v5.heap.size v5
  clear hK4 hBa_4 hBb_4 hcp_4 hlp_4 hcq_4 hlq_4 hb5 hF5
  clear hRb hBb_5
  go_wp2_with fail
  (with_reducible refine (part_any 2 seed d A c v1.heap.size (v1.heap.size + 1) v5 (W32.small (by decide) (by decide)) hd (h1.bel hK5) hn hc hb (hT.below hK5 (Nat.le_refl _)) hcp_5 hcq_5 hlp_5).mono ?_)
  rintro e v6 ⟨A6, c6, rfl, hF6, hb6⟩
  have hK6 := bnx hK5 hb6 hK5.size
  have hBa_6 := bnx hBa_5 hb6 hBa_5.size
  have hBx1_6 := bnx hBx1_5 hb6 hBx1_5.size
  have hcp_6 := cell_bel hcp_5 hb6 hlp_5
  have hlp_6 := Nat.lt_of_lt_of_le hlp_5 hb6.size
  have hcq_6 := hcq_5.below hb6 hlq_5
  have hlq_6 := Nat.lt_of_lt_of_le hlq_5 hb6.size
  have hcb2 : 32 ≤ c6 := by have := hF6.cap; rw [prfL_len] at this; exact this
  have hRb2 := hF6.rd
  have hBb2_6 := Below.refl v6.heap.size v6
  clear hK5 hBa_5 hBx1_5 hcp_5 hlp_5 hcq_5 hlq_5 hb6 hF6
  go_wp2_with fail
  (with_reducible refine (xor32_any y (prfL seed (adB d 2)) A2 A6 c2 c6 v6 (h3.bel hK6) (hRb2.bel hBb2_6) hn2 (prfL_len _ _) hc2_ hb3 (prfL_B _ _)).mono ?_)
  rintro e v7 ⟨A7, c7, rfl, hF7, hb7⟩
  have hK7 := bnx hK6 hb7 hK6.size
  have hBa_7 := bnx hBa_6 hb7 hBa_6.size
  have hBx1_7 := bnx hBx1_6 hb7 hBx1_6.size
  have hBb2_7 := bnx hBb2_6 hb7 hBb2_6.size
  have hcp_7 := cell_bel hcp_6 hb7 hlp_6
  have hlp_7 := Nat.lt_of_lt_of_le hlp_6 hb7.size
  have hcq_7 := hcq_6.below hb7 hlq_6
  have hlq_7 := Nat.lt_of_lt_of_le hlq_6 hb7.size
  have hcx2 : 32 ≤ c7 := by have := hF7.cap; rw [xorL32_len _ _ hn2 (prfL_len _ _)] at this; exact this
  have hRx2 := hF7.rd
  have hBx2_7 := Below.refl v7.heap.size v7
  clear hK6 hBa_6 hBx1_6 hBb2_6 hcp_6 hlp_6 hcq_6 hlq_6 hb7 hF7
  clear hRb2 hBb2_7
  go_wp2_with fail
  have hP := parts_of (w := v7) (T := 24) [.slice A5 32 c5, .slice A7 32 c7] [xorL x (prfL seed (adB d 1)), xorL y (prfL seed (adB d 2))] rfl (fun i hi => match i, hi with | 0, _ => (hRx1.bel hBx1_7).pt (xorL32_len _ _ hn' (prfL_len _ _)) hcx1 | 1, _ => (hRx2.bel hBx2_7).pt (xorL32_len _ _ hn2 (prfL_len _ _)) hcx2 | m + 2, h => absurd h (by simp))
  have hz8 : (v7.alloc (.cells #[.slice A5 32 c5, .slice A7 32 c7] 24)).heap.size = v7.heap.size + 1 := by simp
  have hK8 := bal hK7 hK7.size (.cells #[.slice A5 32 c5, .slice A7 32 c7] 24)
  have hBa_8 := bal hBa_7 hBa_7.size (.cells #[.slice A5 32 c5, .slice A7 32 c7] 24)
  have hBx1_8 := bal hBx1_7 hBx1_7.size (.cells #[.slice A5 32 c5, .slice A7 32 c7] 24)
  have hBx2_8 := bal hBx2_7 hBx2_7.size (.cells #[.slice A5 32 c5, .slice A7 32 c7] 24)
  have hcp_8 := cell_al hcp_7 hlp_7 (.cells #[.slice A5 32 c5, .slice A7 32 c7] 24)
  have hlp_8 := Nat.lt_of_lt_of_le hlp_7 (al_le v7 (.cells #[.slice A5 32 c5, .slice A7 32 c7] 24))
  have hcq_8 := hcq_7.alloc (.cells #[.slice A5 32 c5, .slice A7 32 c7] 24)
  have hlq_8 := Nat.lt_of_lt_of_le hlq_7 (al_le v7 (.cells #[.slice A5 32 c5, .slice A7 32 c7] 24))
  change Calls _ _ _ (v7.alloc (.cells #[.slice A5 32 c5, .slice A7 32 c7] 24)) _
  change Parts (v7.alloc (.cells #[.slice A5 32 c5, .slice A7 32 c7] 24)) _ _ _ at hP
  generalize v7.alloc (.cells #[.slice A5 32 c5, .slice A7 32 c7] 24) = v8 at hK8 hBa_8 hBx1_8 hBx2_8 hcp_8 hlp_8 hcq_8 hlq_8 hz8 hP ⊢
  clear hK7 hBa_7 hBx1_7 hBx2_7 hcp_7 hlp_7 hcq_7 hlq_7
  obtain ⟨T, hTT⟩ : ∃ T, xorL x (prfL seed (adB d 1)) ++ xorL y (prfL seed (adB d 2)) = T := ⟨_, rfl⟩
  have hTl : T.length = 64 := by rw [← hTT, List.length_append, xorL32_len _ _ hn' (prfL_len _ _), xorL32_len _ _ hn2 (prfL_len _ _)]
  have hTb : Bys T := by rw [← hTT]; exact (xorL_B _ _).append (xorL_B _ _)
  have HTT := Lib.hid (And.intro hTT hTl)
  (with_reducible refine (cat_any v8 (some ⟨v7.heap.size, 0, none⟩) 2 (v7.heap.size + 1) 2 [xorL x (prfL seed (adB d 1)), xorL y (prfL seed (adB d 2))] T (by simp [hTT]) hP rfl (by omega) (by omega) (by omega) (by omega)).mono ?_)
  rintro e v9 ⟨A9, c9, rfl, hF9, hb9⟩
  have hK9 := bnx hK8 hb9 hK8.size
  have hBa_9 := bnx hBa_8 hb9 hBa_8.size
  have hBx1_9 := bnx hBx1_8 hb9 hBx1_8.size
  have hBx2_9 := bnx hBx2_8 hb9 hBx2_8.size
  have hcp_9 := cell_bel hcp_8 hb9 hlp_8
  have hlp_9 := Nat.lt_of_lt_of_le hlp_8 hb9.size
  have hcq_9 := hcq_8.below hb9 hlq_8
  have hlq_9 := Nat.lt_of_lt_of_le hlq_8 hb9.size
  have hct : 64 ≤ c9 := by have := hF9.cap; rw [hTl] at this; exact this
  have hRt := hF9.rd
  have hBt_9 := Below.refl v9.heap.size v9
  clear hK8 hBa_8 hBx1_8 hBx2_8 hcp_8 hlp_8 hcq_8 hlq_8 hb9 hF9 hP hTT hz8
  rw [hTl]
  clear hTl
  have hKl := hK9.size
  go_wp2_with fail
  (with_reducible refine (num_any 1 (prfL seed (adB d 0)) T A3 A9 32 c3 64 c9 v9 (by unfold B8; decide) (hRa.bel hBa_9) (prfL_len _ _) hca (by decide) (prfL_B _ _) (hRt.bel hBt_9) HTT.out.2 hct (by decide) hTb (hT.below hK9 (Nat.le_refl _))).mono ?_)
  rintro e v10 ⟨A10, c10, rfl, hF10, hb10⟩
  have hK10 := bnx hK9 hb10 hK9.size
  have hBa_10 := bnx hBa_9 hb10 hBa_9.size
  have hBx1_10 := bnx hBx1_9 hb10 hBx1_9.size
  have hBx2_10 := bnx hBx2_9 hb10 hBx2_9.size
  have hBt_10 := bnx hBt_9 hb10 hBt_9.size
  have hcp_10 := cell_bel hcp_9 hb10 hlp_9
  have hlp_10 := Nat.lt_of_lt_of_le hlp_9 hb10.size
  have hcq_10 := hcq_9.below hb10 hlq_9
  have hlq_10 := Nat.lt_of_lt_of_le hlq_9 hb10.size
  rw [← HTT.out.1] at hF10
  have hFz := hF10.low (b' := w.heap.size) hKl
  clear hK9 hBa_9 hBx1_9 hBx2_9 hBt_9 hcp_9 hlp_9 hcq_9 hlq_9 hb10 hF10
  go_wp2_with fail
  go_ret
  exact ⟨_, _, rfl, hFz, hK10⟩
set_option maxRecDepth 100000 in
set_option maxHeartbeats 2000000 in
theorem h_no (seed : List Int) (d : Ad) (x : List Int) (y : List Int) (A : Option Addr) (A' : Option Addr) (A2 : Option Addr) (n c n' c' n2 c2 : Nat) (w : World) (hd : d.ok) (h1 : Rd w w.heap.size .u8 A seed) (hn : seed.length = n) (hc : n ≤ c) (hb : Bys seed) (h2 : Rd w w.heap.size .u8 A' x) (hn' : x.length = n') (hc' : n' ≤ c') (hb2 : Bys x) (h3 : Rd w w.heap.size .u8 A2 y) (hn2 : y.length = n2) (hc2_ : n2 ≤ c2) (hb3 : Bys y) (hT : S2Tb w) (hok : ¬ (n = 32 ∧ n' = 32 ∧ n2 = 32)) :
    Calls Tryd.prog 39 #[.slice A n c, .agg d.cs, .slice A' n' c', .slice A2 n2 c2] w (NilP w) := by
  have hall : allN [seed, x, y] 32 = false := by
    cases hq : allN [seed, x, y] 32 with
    | false => rfl
    | true => exact absurd (by simpa [allN, hn, hn', hn2] using hq) hok
  have hX := Blk.new w 46 d.cs
  have hK0 := bal (Below.refl w.heap.size w) (Nat.le_refl _) (.cells d.cs 46)
  have hl0 := hX.lt
  go_enter Tryd.func39, Tryd.ntmps39
  go_upto_region 1 with fail
  change Code.wp _ _ _ _ (w.alloc (.cells d.cs 46))
  generalize w.alloc (.cells d.cs 46) = w0 at hX hK0 hl0 ⊢
  go_wp2_with fail
  have hP := parts_of (w := w0) (T := 24) [.slice A n c, .slice A' n' c', .slice A2 n2 c2] [seed, x, y] rfl (fun i hi => match i, hi with | 0, _ => (h1.bel hK0).pt hn hc | 1, _ => (h2.bel hK0).pt hn' hc' | 2, _ => (h3.bel hK0).pt hn2 hc2_ | m + 3, h => absurd h (by simp))
  have hz1 : (w0.alloc (.cells #[.slice A n c, .slice A' n' c', .slice A2 n2 c2] 24)).heap.size = w0.heap.size + 1 := by simp
  have hK1 := bal hK0 hK0.size (.cells #[.slice A n c, .slice A' n' c', .slice A2 n2 c2] 24)
  have hcx_1 := hX.alloc (.cells #[.slice A n c, .slice A' n' c', .slice A2 n2 c2] 24)
  have hlx_1 := Nat.lt_of_lt_of_le hl0 (al_le w0 (.cells #[.slice A n c, .slice A' n' c', .slice A2 n2 c2] 24))
  change Calls _ _ _ (w0.alloc (.cells #[.slice A n c, .slice A' n' c', .slice A2 n2 c2] 24)) _
  change Parts (w0.alloc (.cells #[.slice A n c, .slice A' n' c', .slice A2 n2 c2] 24)) _ _ _ at hP
  generalize w0.alloc (.cells #[.slice A n c, .slice A' n' c', .slice A2 n2 c2] 24) = v1 at hK1 hcx_1 hlx_1 hz1 hP ⊢
  clear hK0 hX hl0
  (with_reducible refine (right_any [seed, x, y] (some ⟨w0.heap.size, 0, none⟩) 3 (w0.heap.size + 1) 3 32 32 v1 rfl hP rfl (by decide)).mono ?_)
  rintro e u1 ⟨rfl, hu⟩
  subst u1
  rw [hall]
  clear hP hall hz1
  go_wp2_with fail
  go_ret
  exact ⟨rfl, hK1⟩
end Go.Proofs.YtfaonieaagepjaaDoor
