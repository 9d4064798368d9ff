/- Layer 14: sums without masks, walked. Conditions: small lengths; the tables. -/
import Derived.Test.YtfaonieaagepjaaDoorA4H
import Derived.Test.YtfaonieaagepjaaDoorZD
namespace Go.Proofs.YtfaonieaagepjaaDoor
open Go.RowKit
set_option linter.unusedVariables false
set_option linter.unusedSimpArgs false
def twL (n : Nat) (seed : List Int) (d : Ad) (text : List Int) : List Int := seg (newS (seed ++ adP d ++ text)) 0 n
theorem twL_len (n : Nat) (seed : List Int) (d : Ad) (text : List Int) : (twL n seed d text).length = n := seg_len _ _ _
theorem KTab.bel {w w' : World} (h : KTab w) (hb : Below w.heap.size w w') : KTab w' := h.below hb h.zr h.zt
set_option maxRecDepth 100000 in
set_option maxHeartbeats 2000000 in
theorem tw_16 (seed : List Int) (d : Ad) (x : List Int) (A A' : Option Addr) (n c n' c' : Nat) (N : Int) (w : World) (hd : d.ok) (h1 : Rd w w.heap.size .u8 A seed) (hn : seed.length = n) (hc : n ≤ c) (hb : Bys seed) (h2 : Rd w w.heap.size .u8 A' x) (hn' : x.length = n') (hc' : n' ≤ c') (hl' : n' ≤ 300000) (hb2 : Bys x) (hT : KTab w) (hN : N = 16) (hok : n = 16) :
    Calls Tryd.prog 41 #[.int .i64 N, .slice A n c, .agg d.cs, .slice A' n' c'] w (OutP w (twL 16 seed d x) 16) := by
  subst hN
  subst hok
  have hall : allN [seed] 16 = true := by simp [allN, hn]
  have hX := Blk.new w 46 d.cs
  have hK0 := bal (Below.refl w.heap.size w) (Nat.le_refl _) (.cells d.cs 46)
  have hl0 := hX.lt
  go_enter Tryd.func41, Tryd.ntmps41
  go_upto_region 1 with fail
  change Code.wp _ _ _ _ (w.alloc (.cells d.cs 46))
  generalize w.alloc (.cells d.cs 46) = w0 at hX hK0 hl0 ⊢
  go_wp2_with fail
  have hP := parts_of (w := w0) (T := 24) [.slice A 16 c] [seed] rfl (fun i hi => match i, hi with | 0, _ => (h1.bel hK0).pt hn hc | m + 1, h => absurd h (by simp))
  have hz1 : (w0.alloc (.cells #[.slice A 16 c] 24)).heap.size = w0.heap.size + 1 := by simp
  have hK1 := bal hK0 hK0.size (.cells #[.slice A 16 c] 24)
  have hcx_1 := hX.alloc (.cells #[.slice A 16 c] 24)
  have hlx_1 := Nat.lt_of_lt_of_le hl0 (al_le w0 (.cells #[.slice A 16 c] 24))
  change Calls _ _ _ (w0.alloc (.cells #[.slice A 16 c] 24)) _
  change Parts (w0.alloc (.cells #[.slice A 16 c] 24)) _ _ _ at hP
  generalize w0.alloc (.cells #[.slice A 16 c] 24) = v1 at hK1 hcx_1 hlx_1 hz1 hP ⊢
  clear hK0 hX hl0
  (with_reducible refine (right_any [seed] (some ⟨w0.heap.size, 0, none⟩) 1 (w0.heap.size + 1) 1 16 16 v1 rfl hP rfl (by decide)).mono ?_)
  rintro e u1 ⟨rfl, hu⟩
  subst u1
  rw [hall]
  clear hP hall hz1
  go_wp2_with (refine wpList_load_row (o := ⟨some 27, _, _, _, _, _⟩) rfl 46 _ rfl w.heap.size rfl _ d.cs (0, 0) _ hcx_1 Tryd.underlying46 rfl (by kernel_rfl) ?_)
  (with_reducible refine (plain_any d v1 hd).mono ?_)
  rintro e v3 ⟨A3, c3, rfl, hF3, hb3⟩
  have hK3 := bnx hK1 hb3 hK1.size
  have hcx_3 := hcx_1.below hb3 hlx_1
  have hlx_3 := Nat.lt_of_lt_of_le hlx_1 hb3.size
  have hcp : 32 ≤ c3 := by have := hF3.cap; rw [adP_len] at this; exact this
  have hRp := hF3.rd
  have hBp_3 := Below.refl v3.heap.size v3
  clear hK1 hcx_1 hlx_1 hb3 hF3
  go_wp2_with fail
  have hP := parts_of (w := v3) (T := 24) [.slice A 16 c, .slice A3 32 c3, .slice A' n' c'] [seed, adP d, x] rfl (fun i hi => match i, hi with | 0, _ => (h1.bel hK3).pt hn hc | 1, _ => (hRp.bel hBp_3).pt (adP_len _) hcp | 2, _ => (h2.bel hK3).pt hn' hc' | m + 3, h => absurd h (by simp))
  have hz4 : (v3.alloc (.cells #[.slice A 16 c, .slice A3 32 c3, .slice A' n' c'] 24)).heap.size = v3.heap.size + 1 := by simp
  have hK4 := bal hK3 hK3.size (.cells #[.slice A 16 c, .slice A3 32 c3, .slice A' n' c'] 24)
  have hBp_4 := bal hBp_3 hBp_3.size (.cells #[.slice A 16 c, .slice A3 32 c3, .slice A' n' c'] 24)
  have hcx_4 := hcx_3.alloc (.cells #[.slice A 16 c, .slice A3 32 c3, .slice A' n' c'] 24)
  have hlx_4 := Nat.lt_of_lt_of_le hlx_3 (al_le v3 (.cells #[.slice A 16 c, .slice A3 32 c3, .slice A' n' c'] 24))
  change Calls _ _ _ (v3.alloc (.cells #[.slice A 16 c, .slice A3 32 c3, .slice A' n' c'] 24)) _
  change Parts (v3.alloc (.cells #[.slice A 16 c, .slice A3 32 c3, .slice A' n' c'] 24)) _ _ _ at hP
  generalize v3.alloc (.cells #[.slice A 16 c, .slice A3 32 c3, .slice A' n' c'] 24) = v4 at hK4 hBp_4 hcx_4 hlx_4 hz4 hP ⊢
  clear hK3 hBp_3 hcx_3 hlx_3
  clear hRp hBp_4
  obtain ⟨T, hTT⟩ : ∃ T, seed ++ adP d ++ x = T := ⟨_, rfl⟩
  have hTl : T.length = 48 + n' := by rw [← hTT]; simp [adP_len, hn, hn']; omega
  have hTb : Bys T := by rw [← hTT]; exact (hb.append (adP_B d)).append hb2
  have hfl : [seed, adP d, x].flatten = T := by rw [← hTT]; simp
  have HTT := Lib.hid (And.intro hTT hTl)
  (with_reducible refine (cat_any v4 (some ⟨v3.heap.size, 0, none⟩) 3 (v3.heap.size + 1) 3 [seed, adP d, x] T hfl hP rfl (by omega) (by omega) (by omega) (by omega)).mono ?_)
  rintro e v5 ⟨A5, c5, rfl, hF5, hb5⟩
  have hK5 := bnx hK4 hb5 hK4.size
  have hcx_5 := hcx_4.below hb5 hlx_4
  have hlx_5 := Nat.lt_of_lt_of_le hlx_4 hb5.size
  have hnl := hF5.nil
  have hRt := hF5.rd
  have hBt_5 := Below.refl v5.heap.size v5
  clear hK4 hcx_4 hlx_4 hb5 hP hTT hz4 hfl
  rw [hTl]
  clear hTl hF5
  have hKl := hK5.size
  go_wp2_with fail
  (with_reducible refine (sum_n T A5 (48 + n') c5 v5.heap.size 16 v5 (hRt.bel hBt_5) (Nat.le_refl _) (by have := HTT.out.2; omega) hnl (hT.bel hK5) hTb (by decide) HTT.out.2 16 rfl).mono ?_)
  rintro e v6 ⟨A6, c6, rfl, hF6, hb6⟩
  have hK6 := bnx hK5 hb6 hK5.size
  have hBt_6 := bnx hBt_5 hb6 hBt_5.size
  have hcx_6 := hcx_5.below hb6 hlx_5
  have hlx_6 := Nat.lt_of_lt_of_le hlx_5 hb6.size
  rw [← HTT.out.1] at hF6
  have hFz : Frs v6 w.heap.size A6 c6 (twL 16 seed d x) := hF6.frs.low (b' := w.heap.size) hKl
  clear hK5 hBt_5 hcx_5 hlx_5 hb6 hF6
  go_wp2_with fail
  go_ret
  exact ⟨_, _, rfl, hFz, hK6⟩
set_option maxRecDepth 100000 in
set_option maxHeartbeats 2000000 in
theorem twno_16 (seed : List Int) (d : Ad) (x : List Int) (A A' : Option Addr) (n c n' c' : Nat) (N : Int) (w : World) (hd : d.ok) (h1 : Rd w w.heap.size .u8 A seed) (hn : seed.length = n) (hc : n ≤ c) (hb : Bys seed) (h2 : Rd w w.heap.size .u8 A' x) (hn' : x.length = n') (hc' : n' ≤ c') (hl' : n' ≤ 300000) (hb2 : Bys x) (hT : KTab w) (hN : N = 16) (hok : ¬ n = 16) :
    Calls Tryd.prog 41 #[.int .i64 N, .slice A n c, .agg d.cs, .slice A' n' c'] w (NilP w) := by
  subst hN
  have hall : allN [seed] 16 = false := by simp [allN, hn, hok]
  have hX := Blk.new w 46 d.cs
  have hK0 := bal (Below.refl w.heap.size w) (Nat.le_refl _) (.cells d.cs 46)
  have hl0 := hX.lt
  go_enter Tryd.func41, Tryd.ntmps41
  go_upto_region 1 with fail
  change Code.wp _ _ _ _ (w.alloc (.cells d.cs 46))
  generalize w.alloc (.cells d.cs 46) = w0 at hX hK0 hl0 ⊢
  go_wp2_with fail
  have hP := parts_of (w := w0) (T := 24) [.slice A n c] [seed] rfl (fun i hi => match i, hi with | 0, _ => (h1.bel hK0).pt hn hc | m + 1, h => absurd h (by simp))
  have hz1 : (w0.alloc (.cells #[.slice A n c] 24)).heap.size = w0.heap.size + 1 := by simp
  have hK1 := bal hK0 hK0.size (.cells #[.slice A n c] 24)
  have hcx_1 := hX.alloc (.cells #[.slice A n c] 24)
  have hlx_1 := Nat.lt_of_lt_of_le hl0 (al_le w0 (.cells #[.slice A n c] 24))
  change Calls _ _ _ (w0.alloc (.cells #[.slice A n c] 24)) _
  change Parts (w0.alloc (.cells #[.slice A n c] 24)) _ _ _ at hP
  generalize w0.alloc (.cells #[.slice A n c] 24) = v1 at hK1 hcx_1 hlx_1 hz1 hP ⊢
  clear hK0 hX hl0
  (with_reducible refine (right_any [seed] (some ⟨w0.heap.size, 0, none⟩) 1 (w0.heap.size + 1) 1 16 16 v1 rfl hP rfl (by decide)).mono ?_)
  rintro e u1 ⟨rfl, hu⟩
  subst u1
  rw [hall]
  clear hP hall hz1
  go_wp2_with fail
  go_ret
  exact ⟨rfl, hK1⟩
set_option maxRecDepth 100000 in
set_option maxHeartbeats 2000000 in
theorem tw_24 (seed : List Int) (d : Ad) (x : List Int) (A A' : Option Addr) (n c n' c' : Nat) (N : Int) (w : World) (hd : d.ok) (h1 : Rd w w.heap.size .u8 A seed) (hn : seed.length = n) (hc : n ≤ c) (hb : Bys seed) (h2 : Rd w w.heap.size .u8 A' x) (hn' : x.length = n') (hc' : n' ≤ c') (hl' : n' ≤ 300000) (hb2 : Bys x) (hT : KTab w) (hN : N = 24) (hok : n = 24) :
    Calls Tryd.prog 41 #[.int .i64 N, .slice A n c, .agg d.cs, .slice A' n' c'] w (OutP w (twL 24 seed d x) 24) := by
  subst hN
  subst hok
  have hall : allN [seed] 24 = true := by simp [allN, hn]
  have hX := Blk.new w 46 d.cs
  have hK0 := bal (Below.refl w.heap.size w) (Nat.le_refl _) (.cells d.cs 46)
  have hl0 := hX.lt
  go_enter Tryd.func41, Tryd.ntmps41
  go_upto_region 1 with fail
  change Code.wp _ _ _ _ (w.alloc (.cells d.cs 46))
  generalize w.alloc (.cells d.cs 46) = w0 at hX hK0 hl0 ⊢
  go_wp2_with fail
  have hP := parts_of (w := w0) (T := 24) [.slice A 24 c] [seed] rfl (fun i hi => match i, hi with | 0, _ => (h1.bel hK0).pt hn hc | m + 1, h => absurd h (by simp))
  have hz1 : (w0.alloc (.cells #[.slice A 24 c] 24)).heap.size = w0.heap.size + 1 := by simp
  have hK1 := bal hK0 hK0.size (.cells #[.slice A 24 c] 24)
  have hcx_1 := hX.alloc (.cells #[.slice A 24 c] 24)
  have hlx_1 := Nat.lt_of_lt_of_le hl0 (al_le w0 (.cells #[.slice A 24 c] 24))
  change Calls _ _ _ (w0.alloc (.cells #[.slice A 24 c] 24)) _
  change Parts (w0.alloc (.cells #[.slice A 24 c] 24)) _ _ _ at hP
  generalize w0.alloc (.cells #[.slice A 24 c] 24) = v1 at hK1 hcx_1 hlx_1 hz1 hP ⊢
  clear hK0 hX hl0
  (with_reducible refine (right_any [seed] (some ⟨w0.heap.size, 0, none⟩) 1 (w0.heap.size + 1) 1 24 24 v1 rfl hP rfl (by decide)).mono ?_)
  rintro e u1 ⟨rfl, hu⟩
  subst u1
  rw [hall]
  clear hP hall hz1
  go_wp2_with (refine wpList_load_row (o := ⟨some 27, _, _, _, _, _⟩) rfl 46 _ rfl w.heap.size rfl _ d.cs (0, 0) _ hcx_1 Tryd.underlying46 rfl (by kernel_rfl) ?_)
  (with_reducible refine (plain_any d v1 hd).mono ?_)
  rintro e v3 ⟨A3, c3, rfl, hF3, hb3⟩
  have hK3 := bnx hK1 hb3 hK1.size
  have hcx_3 := hcx_1.below hb3 hlx_1
  have hlx_3 := Nat.lt_of_lt_of_le hlx_1 hb3.size
  have hcp : 32 ≤ c3 := by have := hF3.cap; rw [adP_len] at this; exact this
  have hRp := hF3.rd
  have hBp_3 := Below.refl v3.heap.size v3
  clear hK1 hcx_1 hlx_1 hb3 hF3
  go_wp2_with fail
  have hP := parts_of (w := v3) (T := 24) [.slice A 24 c, .slice A3 32 c3, .slice A' n' c'] [seed, adP d, x] rfl (fun i hi => match i, hi with | 0, _ => (h1.bel hK3).pt hn hc | 1, _ => (hRp.bel hBp_3).pt (adP_len _) hcp | 2, _ => (h2.bel hK3).pt hn' hc' | m + 3, h => absurd h (by simp))
  have hz4 : (v3.alloc (.cells #[.slice A 24 c, .slice A3 32 c3, .slice A' n' c'] 24)).heap.size = v3.heap.size + 1 := by simp
  have hK4 := bal hK3 hK3.size (.cells #[.slice A 24 c, .slice A3 32 c3, .slice A' n' c'] 24)
  have hBp_4 := bal hBp_3 hBp_3.size (.cells #[.slice A 24 c, .slice A3 32 c3, .slice A' n' c'] 24)
  have hcx_4 := hcx_3.alloc (.cells #[.slice A 24 c, .slice A3 32 c3, .slice A' n' c'] 24)
  have hlx_4 := Nat.lt_of_lt_of_le hlx_3 (al_le v3 (.cells #[.slice A 24 c, .slice A3 32 c3, .slice A' n' c'] 24))
  change Calls _ _ _ (v3.alloc (.cells #[.slice A 24 c, .slice A3 32 c3, .slice A' n' c'] 24)) _
  change Parts (v3.alloc (.cells #[.slice A 24 c, .slice A3 32 c3, .slice A' n' c'] 24)) _ _ _ at hP
  generalize v3.alloc (.cells #[.slice A 24 c, .slice A3 32 c3, .slice A' n' c'] 24) = v4 at hK4 hBp_4 hcx_4 hlx_4 hz4 hP ⊢
  clear hK3 hBp_3 hcx_3 hlx_3
  clear hRp hBp_4
  obtain ⟨T, hTT⟩ : ∃ T, seed ++ adP d ++ x = T := ⟨_, rfl⟩
  have hTl : T.length = 56 + n' := by rw [← hTT]; simp [adP_len, hn, hn']; omega
  have hTb : Bys T := by rw [← hTT]; exact (hb.append (adP_B d)).append hb2
  have hfl : [seed, adP d, x].flatten = T := by rw [← hTT]; simp
  have HTT := Lib.hid (And.intro hTT hTl)
  (with_reducible refine (cat_any v4 (some ⟨v3.heap.size, 0, none⟩) 3 (v3.heap.size + 1) 3 [seed, adP d, x] T hfl hP rfl (by omega) (by omega) (by omega) (by omega)).mono ?_)
  rintro e v5 ⟨A5, c5, rfl, hF5, hb5⟩
  have hK5 := bnx hK4 hb5 hK4.size
  have hcx_5 := hcx_4.below hb5 hlx_4
  have hlx_5 := Nat.lt_of_lt_of_le hlx_4 hb5.size
  have hnl := hF5.nil
  have hRt := hF5.rd
  have hBt_5 := Below.refl v5.heap.size v5
  clear hK4 hcx_4 hlx_4 hb5 hP hTT hz4 hfl
  rw [hTl]
  clear hTl hF5
  have hKl := hK5.size
  go_wp2_with fail
  (with_reducible refine (sum_n T A5 (56 + n') c5 v5.heap.size 24 v5 (hRt.bel hBt_5) (Nat.le_refl _) (by have := HTT.out.2; omega) hnl (hT.bel hK5) hTb (by decide) HTT.out.2 24 rfl).mono ?_)
  rintro e v6 ⟨A6, c6, rfl, hF6, hb6⟩
  have hK6 := bnx hK5 hb6 hK5.size
  have hBt_6 := bnx hBt_5 hb6 hBt_5.size
  have hcx_6 := hcx_5.below hb6 hlx_5
  have hlx_6 := Nat.lt_of_lt_of_le hlx_5 hb6.size
  rw [← HTT.out.1] at hF6
  have hFz : Frs v6 w.heap.size A6 c6 (twL 24 seed d x) := hF6.frs.low (b' := w.heap.size) hKl
  clear hK5 hBt_5 hcx_5 hlx_5 hb6 hF6
  go_wp2_with fail
  go_ret
  exact ⟨_, _, rfl, hFz, hK6⟩
set_option maxRecDepth 100000 in
set_option maxHeartbeats 2000000 in
theorem twno_24 (seed : List Int) (d : Ad) (x : List Int) (A A' : Option Addr) (n c n' c' : Nat) (N : Int) (w : World) (hd : d.ok) (h1 : Rd w w.heap.size .u8 A seed) (hn : seed.length = n) (hc : n ≤ c) (hb : Bys seed) (h2 : Rd w w.heap.size .u8 A' x) (hn' : x.length = n') (hc' : n' ≤ c') (hl' : n' ≤ 300000) (hb2 : Bys x) (hT : KTab w) (hN : N = 24) (hok : ¬ n = 24) :
    Calls Tryd.prog 41 #[.int .i64 N, .slice A n c, .agg d.cs, .slice A' n' c'] w (NilP w) := by
  subst hN
  have hall : allN [seed] 24 = false := by simp [allN, hn, hok]
  have hX := Blk.new w 46 d.cs
  have hK0 := bal (Below.refl w.heap.size w) (Nat.le_refl _) (.cells d.cs 46)
  have hl0 := hX.lt
  go_enter Tryd.func41, Tryd.ntmps41
  go_upto_region 1 with fail
  change Code.wp _ _ _ _ (w.alloc (.cells d.cs 46))
  generalize w.alloc (.cells d.cs 46) = w0 at hX hK0 hl0 ⊢
  go_wp2_with fail
  have hP := parts_of (w := w0) (T := 24) [.slice A n c] [seed] rfl (fun i hi => match i, hi with | 0, _ => (h1.bel hK0).pt hn hc | m + 1, h => absurd h (by simp))
  have hz1 : (w0.alloc (.cells #[.slice A n c] 24)).heap.size = w0.heap.size + 1 := by simp
  have hK1 := bal hK0 hK0.size (.cells #[.slice A n c] 24)
  have hcx_1 := hX.alloc (.cells #[.slice A n c] 24)
  have hlx_1 := Nat.lt_of_lt_of_le hl0 (al_le w0 (.cells #[.slice A n c] 24))
  change Calls _ _ _ (w0.alloc (.cells #[.slice A n c] 24)) _
  change Parts (w0.alloc (.cells #[.slice A n c] 24)) _ _ _ at hP
  generalize w0.alloc (.cells #[.slice A n c] 24) = v1 at hK1 hcx_1 hlx_1 hz1 hP ⊢
  clear hK0 hX hl0
  (with_reducible refine (right_any [seed] (some ⟨w0.heap.size, 0, none⟩) 1 (w0.heap.size + 1) 1 24 24 v1 rfl hP rfl (by decide)).mono ?_)
  rintro e u1 ⟨rfl, hu⟩
  subst u1
  rw [hall]
  clear hP hall hz1
  go_wp2_with fail
  go_ret
  exact ⟨rfl, hK1⟩
set_option maxRecDepth 100000 in
set_option maxHeartbeats 2000000 in
theorem tw_32 (seed : List Int) (d : Ad) (x : List Int) (A A' : Option Addr) (n c n' c' : Nat) (N : Int) (w : World) (hd : d.ok) (h1 : Rd w w.heap.size .u8 A seed) (hn : seed.length = n) (hc : n ≤ c) (hb : Bys seed) (h2 : Rd w w.heap.size .u8 A' x) (hn' : x.length = n') (hc' : n' ≤ c') (hl' : n' ≤ 300000) (hb2 : Bys x) (hT : KTab w) (hN : N = 32) (hok : n = 32) :
    Calls Tryd.prog 41 #[.int .i64 N, .slice A n c, .agg d.cs, .slice A' n' c'] w (OutP w (twL 32 seed d x) 32) := by
  subst hN
  subst hok
  have hall : allN [seed] 32 = true := by simp [allN, hn]
  have hX := Blk.new w 46 d.cs
  have hK0 := bal (Below.refl w.heap.size w) (Nat.le_refl _) (.cells d.cs 46)
  have hl0 := hX.lt
  go_enter Tryd.func41, Tryd.ntmps41
  go_upto_region 1 with fail
  change Code.wp _ _ _ _ (w.alloc (.cells d.cs 46))
  generalize w.alloc (.cells d.cs 46) = w0 at hX hK0 hl0 ⊢
  go_wp2_with fail
  have hP := parts_of (w := w0) (T := 24) [.slice A 32 c] [seed] rfl (fun i hi => match i, hi with | 0, _ => (h1.bel hK0).pt hn hc | m + 1, h => absurd h (by simp))
  have hz1 : (w0.alloc (.cells #[.slice A 32 c] 24)).heap.size = w0.heap.size + 1 := by simp
  have hK1 := bal hK0 hK0.size (.cells #[.slice A 32 c] 24)
  have hcx_1 := hX.alloc (.cells #[.slice A 32 c] 24)
  have hlx_1 := Nat.lt_of_lt_of_le hl0 (al_le w0 (.cells #[.slice A 32 c] 24))
  change Calls _ _ _ (w0.alloc (.cells #[.slice A 32 c] 24)) _
  change Parts (w0.alloc (.cells #[.slice A 32 c] 24)) _ _ _ at hP
  generalize w0.alloc (.cells #[.slice A 32 c] 24) = v1 at hK1 hcx_1 hlx_1 hz1 hP ⊢
  clear hK0 hX hl0
  (with_reducible refine (right_any [seed] (some ⟨w0.heap.size, 0, none⟩) 1 (w0.heap.size + 1) 1 32 32 v1 rfl hP rfl (by decide)).mono ?_)
  rintro e u1 ⟨rfl, hu⟩
  subst u1
  rw [hall]
  clear hP hall hz1
  go_wp2_with (refine wpList_load_row (o := ⟨some 27, _, _, _, _, _⟩) rfl 46 _ rfl w.heap.size rfl _ d.cs (0, 0) _ hcx_1 Tryd.underlying46 rfl (by kernel_rfl) ?_)
  (with_reducible refine (plain_any d v1 hd).mono ?_)
  rintro e v3 ⟨A3, c3, rfl, hF3, hb3⟩
  have hK3 := bnx hK1 hb3 hK1.size
  have hcx_3 := hcx_1.below hb3 hlx_1
  have hlx_3 := Nat.lt_of_lt_of_le hlx_1 hb3.size
  have hcp : 32 ≤ c3 := by have := hF3.cap; rw [adP_len] at this; exact this
  have hRp := hF3.rd
  have hBp_3 := Below.refl v3.heap.size v3
  clear hK1 hcx_1 hlx_1 hb3 hF3
  go_wp2_with fail
  have hP := parts_of (w := v3) (T := 24) [.slice A 32 c, .slice A3 32 c3, .slice A' n' c'] [seed, adP d, x] rfl (fun i hi => match i, hi with | 0, _ => (h1.bel hK3).pt hn hc | 1, _ => (hRp.bel hBp_3).pt (adP_len _) hcp | 2, _ => (h2.bel hK3).pt hn' hc' | m + 3, h => absurd h (by simp))
  have hz4 : (v3.alloc (.cells #[.slice A 32 c, .slice A3 32 c3, .slice A' n' c'] 24)).heap.size = v3.heap.size + 1 := by simp
  have hK4 := bal hK3 hK3.size (.cells #[.slice A 32 c, .slice A3 32 c3, .slice A' n' c'] 24)
  have hBp_4 := bal hBp_3 hBp_3.size (.cells #[.slice A 32 c, .slice A3 32 c3, .slice A' n' c'] 24)
  have hcx_4 := hcx_3.alloc (.cells #[.slice A 32 c, .slice A3 32 c3, .slice A' n' c'] 24)
  have hlx_4 := Nat.lt_of_lt_of_le hlx_3 (al_le v3 (.cells #[.slice A 32 c, .slice A3 32 c3, .slice A' n' c'] 24))
  change Calls _ _ _ (v3.alloc (.cells #[.slice A 32 c, .slice A3 32 c3, .slice A' n' c'] 24)) _
  change Parts (v3.alloc (.cells #[.slice A 32 c, .slice A3 32 c3, .slice A' n' c'] 24)) _ _ _ at hP
  generalize v3.alloc (.cells #[.slice A 32 c, .slice A3 32 c3, .slice A' n' c'] 24) = v4 at hK4 hBp_4 hcx_4 hlx_4 hz4 hP ⊢
  clear hK3 hBp_3 hcx_3 hlx_3
  clear hRp hBp_4
  obtain ⟨T, hTT⟩ : ∃ T, seed ++ adP d ++ x = T := ⟨_, rfl⟩
  have hTl : T.length = 64 + n' := by rw [← hTT]; simp [adP_len, hn, hn']; omega
  have hTb : Bys T := by rw [← hTT]; exact (hb.append (adP_B d)).append hb2
  have hfl : [seed, adP d, x].flatten = T := by rw [← hTT]; simp
  have HTT := Lib.hid (And.intro hTT hTl)
  (with_reducible refine (cat_any v4 (some ⟨v3.heap.size, 0, none⟩) 3 (v3.heap.size + 1) 3 [seed, adP d, x] T hfl hP rfl (by omega) (by omega) (by omega) (by omega)).mono ?_)
  rintro e v5 ⟨A5, c5, rfl, hF5, hb5⟩
  have hK5 := bnx hK4 hb5 hK4.size
  have hcx_5 := hcx_4.below hb5 hlx_4
  have hlx_5 := Nat.lt_of_lt_of_le hlx_4 hb5.size
  have hnl := hF5.nil
  have hRt := hF5.rd
  have hBt_5 := Below.refl v5.heap.size v5
  clear hK4 hcx_4 hlx_4 hb5 hP hTT hz4 hfl
  rw [hTl]
  clear hTl hF5
  have hKl := hK5.size
  go_wp2_with fail
  (with_reducible refine (sum_n T A5 (64 + n') c5 v5.heap.size 32 v5 (hRt.bel hBt_5) (Nat.le_refl _) (by have := HTT.out.2; omega) hnl (hT.bel hK5) hTb (by decide) HTT.out.2 32 rfl).mono ?_)
  rintro e v6 ⟨A6, c6, rfl, hF6, hb6⟩
  have hK6 := bnx hK5 hb6 hK5.size
  have hBt_6 := bnx hBt_5 hb6 hBt_5.size
  have hcx_6 := hcx_5.below hb6 hlx_5
  have hlx_6 := Nat.lt_of_lt_of_le hlx_5 hb6.size
  rw [← HTT.out.1] at hF6
  have hFz : Frs v6 w.heap.size A6 c6 (twL 32 seed d x) := hF6.frs.low (b' := w.heap.size) hKl
  clear hK5 hBt_5 hcx_5 hlx_5 hb6 hF6
  go_wp2_with fail
  go_ret
  exact ⟨_, _, rfl, hFz, hK6⟩
set_option maxRecDepth 100000 in
set_option maxHeartbeats 2000000 in
theorem twno_32 (seed : List Int) (d : Ad) (x : List Int) (A A' : Option Addr) (n c n' c' : Nat) (N : Int) (w : World) (hd : d.ok) (h1 : Rd w w.heap.size .u8 A seed) (hn : seed.length = n) (hc : n ≤ c) (hb : Bys seed) (h2 : Rd w w.heap.size .u8 A' x) (hn' : x.length = n') (hc' : n' ≤ c') (hl' : n' ≤ 300000) (hb2 : Bys x) (hT : KTab w) (hN : N = 32) (hok : ¬ n = 32) :
    Calls Tryd.prog 41 #[.int .i64 N, .slice A n c, .agg d.cs, .slice A' n' c'] w (NilP w) := by
  subst hN
  have hall : allN [seed] 32 = false := by simp [allN, hn, hok]
  have hX := Blk.new w 46 d.cs
  have hK0 := bal (Below.refl w.heap.size w) (Nat.le_refl _) (.cells d.cs 46)
  have hl0 := hX.lt
  go_enter Tryd.func41, Tryd.ntmps41
  go_upto_region 1 with fail
  change Code.wp _ _ _ _ (w.alloc (.cells d.cs 46))
  generalize w.alloc (.cells d.cs 46) = w0 at hX hK0 hl0 ⊢
  go_wp2_with fail
  have hP := parts_of (w := w0) (T := 24) [.slice A n c] [seed] rfl (fun i hi => match i, hi with | 0, _ => (h1.bel hK0).pt hn hc | m + 1, h => absurd h (by simp))
  have hz1 : (w0.alloc (.cells #[.slice A n c] 24)).heap.size = w0.heap.size + 1 := by simp
  have hK1 := bal hK0 hK0.size (.cells #[.slice A n c] 24)
  have hcx_1 := hX.alloc (.cells #[.slice A n c] 24)
  have hlx_1 := Nat.lt_of_lt_of_le hl0 (al_le w0 (.cells #[.slice A n c] 24))
  change Calls _ _ _ (w0.alloc (.cells #[.slice A n c] 24)) _
  change Parts (w0.alloc (.cells #[.slice A n c] 24)) _ _ _ at hP
  generalize w0.alloc (.cells #[.slice A n c] 24) = v1 at hK1 hcx_1 hlx_1 hz1 hP ⊢
  clear hK0 hX hl0
  (with_reducible refine (right_any [seed] (some ⟨w0.heap.size, 0, none⟩) 1 (w0.heap.size + 1) 1 32 32 v1 rfl hP rfl (by decide)).mono ?_)
  rintro e u1 ⟨rfl, hu⟩
  subst u1
  rw [hall]
  clear hP hall hz1
  go_wp2_with fail
  go_ret
  exact ⟨rfl, hK1⟩
set_option maxRecDepth 100000 in
set_option maxHeartbeats 2000000 in
theorem tw_no (seed : List Int) (d : Ad) (x : List Int) (A A' : Option Addr) (n c n' c' : Nat) (N : Int) (w : World) (hd : d.ok) (h1 : Rd w w.heap.size .u8 A seed) (hn : seed.length = n) (hc : n ≤ c) (hb : Bys seed) (h2 : Rd w w.heap.size .u8 A' x) (hn' : x.length = n') (hc' : n' ≤ c') (hl' : n' ≤ 300000) (hb2 : Bys x) (hT : KTab w) (hN : ¬ N = 16 ∧ ¬ N = 24 ∧ ¬ N = 32) :
    Calls Tryd.prog 41 #[.int .i64 N, .slice A n c, .agg d.cs, .slice A' n' c'] w (NilP w) := by
  obtain ⟨q1, q2, q3⟩ := hN
  have e1 : (N != 16) = true := by simpa using q1
  have e2 : (N != 24) = true := by simpa using q2
  have e3 : (N != 32) = true := by simpa using q3
  have hX := Blk.new w 46 d.cs
  have hK0 := bal (Below.refl w.heap.size w) (Nat.le_refl _) (.cells d.cs 46)
  have hl0 := hX.lt
  go_enter Tryd.func41, Tryd.ntmps41
  go_upto_region 1 with fail
  change Code.wp _ _ _ _ (w.alloc (.cells d.cs 46))
  generalize w.alloc (.cells d.cs 46) = w0 at hX hK0 hl0 ⊢
  go_wp2_with fail
  go_ret
  exact ⟨rfl, hK0⟩
end Go.Proofs.YtfaonieaagepjaaDoor
