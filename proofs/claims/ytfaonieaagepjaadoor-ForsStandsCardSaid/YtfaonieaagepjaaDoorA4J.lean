/- Layer 14, the reference: sums without masks, walked. Conditions: small lengths. -/
import Derived.Test.YtfaonieaagepjaaDoorA4I
namespace Go.Proofs.YtfaonieaagepjaaDoor
open Go.RowKit
set_option linter.unusedVariables false
set_option linter.unusedSimpArgs false
/-- What a call has left, to be read. -/
def OutR (w : World) (L : List Int) (n : Nat) (e : Ending) (w' : World) : Prop :=
  ∃ A c, e = .returned (.slice A n c) ∧ Rd w' w'.heap.size .u8 A L ∧ n ≤ c ∧ Below w.heap.size w w'
theorem refsum_n (l : List Int) (A : Option Addr) (m c B0 n : Nat) (N : Int) (w : World) (hr : Rd w B0 .u8 A l) (hB : B0 ≤ w.heap.size) (hl : l.length ≤ 100000000) (hn : n ≤ 65536) (hby0 : Bys l) (hm : l.length = m) (hN : N = n) :
    Calls Tryd.prog 66 #[.slice A m c, .int .i64 N] w (RefPostF w l n) := by
  subst hm hN
  exact refsumF_any l A c B0 n w hr hB hl hn hby0
set_option maxRecDepth 100000 in
set_option maxHeartbeats 2000000 in
theorem rtw_16 (seed : List Int) (d : Ad) (x : List Int) (A A' : Option Addr) (n c n' c' : Nat) (N : Int) (w : World) (hd : d.ok) (h1 : Rd w w.heap.size .u8 A seed) (hn : seed.length = n) (hc : n ≤ c) (hb : Bys seed) (h2 : Rd w w.heap.size .u8 A' x) (hn' : x.length = n') (hc' : n' ≤ c') (hl' : n' ≤ 300000) (hb2 : Bys x) (hN : N = 16) (hok : n = 16) :
    Calls Tryd.prog 42 #[.int .i64 N, .slice A n c, .agg d.cs, .slice A' n' c'] w (OutR w (twL 16 seed d x) 16) := by
  subst hN
  subst hok
  have hX := Blk.new w 46 d.cs
  have hK0 := bal (Below.refl w.heap.size w) (Nat.le_refl _) (.cells d.cs 46)
  have hl0 := hX.lt
  go_enter Tryd.func42, Tryd.ntmps42
  go_upto_region 1 with fail
  change Code.wp _ _ _ _ (w.alloc (.cells d.cs 46))
  generalize w.alloc (.cells d.cs 46) = w0 at hX hK0 hl0 ⊢
  go_wp2_with (refine wpList_load_row (o := ⟨some 26, _, _, _, _, _⟩) rfl 46 _ rfl w.heap.size rfl _ d.cs (0, 0) _ hX Tryd.underlying46 rfl (by kernel_rfl) ?_)
  (with_reducible refine (rplain_any d w0 hd).mono ?_)
  rintro e v1 ⟨A1, c1, rfl, hF1, hb1⟩
  have hK1 := bnx hK0 hb1 hK0.size
  have hcx_1 := hX.below hb1 hl0
  have hlx_1 := Nat.lt_of_lt_of_le hl0 hb1.size
  have hcp : 32 ≤ c1 := by have := hF1.cap; rw [adP_len] at this; exact this
  have hRp := hF1.rd
  have hBp_1 := Below.refl v1.heap.size v1
  clear hK0 hX hl0 hb1 hF1
  go_wp2_with fail
  have hP := parts_of (w := v1) (T := 24) [.slice A 16 c, .slice A1 32 c1, .slice A' n' c'] [seed, adP d, x] rfl (fun i hi => match i, hi with | 0, _ => (h1.bel hK1).pt hn hc | 1, _ => (hRp.bel hBp_1).pt (adP_len _) hcp | 2, _ => (h2.bel hK1).pt hn' hc' | m + 3, h => absurd h (by simp))
  have hz2 : (v1.alloc (.cells #[.slice A 16 c, .slice A1 32 c1, .slice A' n' c'] 24)).heap.size = v1.heap.size + 1 := by simp
  have hK2 := bal hK1 hK1.size (.cells #[.slice A 16 c, .slice A1 32 c1, .slice A' n' c'] 24)
  have hBp_2 := bal hBp_1 hBp_1.size (.cells #[.slice A 16 c, .slice A1 32 c1, .slice A' n' c'] 24)
  have hcx_2 := hcx_1.alloc (.cells #[.slice A 16 c, .slice A1 32 c1, .slice A' n' c'] 24)
  have hlx_2 := Nat.lt_of_lt_of_le hlx_1 (al_le v1 (.cells #[.slice A 16 c, .slice A1 32 c1, .slice A' n' c'] 24))
  change Calls _ _ _ (v1.alloc (.cells #[.slice A 16 c, .slice A1 32 c1, .slice A' n' c'] 24)) _
  change Parts (v1.alloc (.cells #[.slice A 16 c, .slice A1 32 c1, .slice A' n' c'] 24)) _ _ _ at hP
  generalize v1.alloc (.cells #[.slice A 16 c, .slice A1 32 c1, .slice A' n' c'] 24) = v2 at hK2 hBp_2 hcx_2 hlx_2 hz2 hP ⊢
  clear hK1 hBp_1 hcx_1 hlx_1
  clear hRp hBp_2
  obtain ⟨T, hTT⟩ : ∃ T, seed ++ adP d ++ x = T := ⟨_, rfl⟩
  have hTl : T.length = 48 + n' := by rw [← hTT]; simp [adP_len, hn, hn']; omega
  have hTb : Bys T := by rw [← hTT]; exact (hb.append (adP_B d)).append hb2
  have hfl : [seed, adP d, x].flatten = T := by rw [← hTT]; simp
  have HTT := Lib.hid (And.intro hTT hTl)
  (with_reducible refine (rcat_any v2 (some ⟨v1.heap.size, 0, none⟩) 3 (v1.heap.size + 1) 3 [seed, adP d, x] T hfl hP rfl (by omega) (by omega) (by omega)).mono ?_)
  rintro e v3 ⟨A3, c3, rfl, hF3, hb3⟩
  have hK3 := bnx hK2 hb3 hK2.size
  have hcx_3 := hcx_2.below hb3 hlx_2
  have hlx_3 := Nat.lt_of_lt_of_le hlx_2 hb3.size
  have hRt := hF3.rd
  have hBt_3 := Below.refl v3.heap.size v3
  clear hK2 hcx_2 hlx_2 hb3 hP hTT hz2 hfl hF3
  rw [hTl]
  clear hTl
  go_wp2_with fail
  (with_reducible refine (refsum_n T A3 (48 + n') c3 v3.heap.size 16 16 v3 (hRt.bel hBt_3) (Nat.le_refl _) (by have := HTT.out.2; omega) (by decide) hTb HTT.out.2 rfl).mono ?_)
  rintro e v4 ⟨A4, c4, rfl, hF4, hcz, hb4⟩
  have hK4 := bnx hK3 hb4 hK3.size
  have hBt_4 := bnx hBt_3 hb4 hBt_3.size
  have hcx_4 := hcx_3.below hb4 hlx_3
  have hlx_4 := Nat.lt_of_lt_of_le hlx_3 hb4.size
  rw [← HTT.out.1] at hF4
  have hFz : Rd v4 v4.heap.size .u8 A4 (twL 16 seed d x) := hF4
  clear hK3 hBt_3 hcx_3 hlx_3 hb4 hF4
  go_wp2_with fail
  go_ret
  exact ⟨_, _, rfl, hFz, hcz, hK4⟩
set_option maxRecDepth 100000 in
set_option maxHeartbeats 2000000 in
theorem rtwno_16 (seed : List Int) (d : Ad) (x : List Int) (A A' : Option Addr) (n c n' c' : Nat) (N : Int) (w : World) (hd : d.ok) (h1 : Rd w w.heap.size .u8 A seed) (hn : seed.length = n) (hc : n ≤ c) (hb : Bys seed) (h2 : Rd w w.heap.size .u8 A' x) (hn' : x.length = n') (hc' : n' ≤ c') (hl' : n' ≤ 300000) (hb2 : Bys x) (hN : N = 16) (hok : ¬ n = 16) :
    Calls Tryd.prog 42 #[.int .i64 N, .slice A n c, .agg d.cs, .slice A' n' c'] w (NilP w) := by
  subst hN
  have e1 : ((n : Int) != 16) = true := by simp; omega
  have hX := Blk.new w 46 d.cs
  have hK0 := bal (Below.refl w.heap.size w) (Nat.le_refl _) (.cells d.cs 46)
  have hl0 := hX.lt
  go_enter Tryd.func42, Tryd.ntmps42
  go_upto_region 1 with fail
  change Code.wp _ _ _ _ (w.alloc (.cells d.cs 46))
  generalize w.alloc (.cells d.cs 46) = w0 at hX hK0 hl0 ⊢
  go_wp2_with fail
  go_ret
  exact ⟨rfl, hK0⟩
set_option maxRecDepth 100000 in
set_option maxHeartbeats 2000000 in
theorem rtw_24 (seed : List Int) (d : Ad) (x : List Int) (A A' : Option Addr) (n c n' c' : Nat) (N : Int) (w : World) (hd : d.ok) (h1 : Rd w w.heap.size .u8 A seed) (hn : seed.length = n) (hc : n ≤ c) (hb : Bys seed) (h2 : Rd w w.heap.size .u8 A' x) (hn' : x.length = n') (hc' : n' ≤ c') (hl' : n' ≤ 300000) (hb2 : Bys x) (hN : N = 24) (hok : n = 24) :
    Calls Tryd.prog 42 #[.int .i64 N, .slice A n c, .agg d.cs, .slice A' n' c'] w (OutR w (twL 24 seed d x) 24) := by
  subst hN
  subst hok
  have hX := Blk.new w 46 d.cs
  have hK0 := bal (Below.refl w.heap.size w) (Nat.le_refl _) (.cells d.cs 46)
  have hl0 := hX.lt
  go_enter Tryd.func42, Tryd.ntmps42
  go_upto_region 1 with fail
  change Code.wp _ _ _ _ (w.alloc (.cells d.cs 46))
  generalize w.alloc (.cells d.cs 46) = w0 at hX hK0 hl0 ⊢
  go_wp2_with (refine wpList_load_row (o := ⟨some 26, _, _, _, _, _⟩) rfl 46 _ rfl w.heap.size rfl _ d.cs (0, 0) _ hX Tryd.underlying46 rfl (by kernel_rfl) ?_)
  (with_reducible refine (rplain_any d w0 hd).mono ?_)
  rintro e v1 ⟨A1, c1, rfl, hF1, hb1⟩
  have hK1 := bnx hK0 hb1 hK0.size
  have hcx_1 := hX.below hb1 hl0
  have hlx_1 := Nat.lt_of_lt_of_le hl0 hb1.size
  have hcp : 32 ≤ c1 := by have := hF1.cap; rw [adP_len] at this; exact this
  have hRp := hF1.rd
  have hBp_1 := Below.refl v1.heap.size v1
  clear hK0 hX hl0 hb1 hF1
  go_wp2_with fail
  have hP := parts_of (w := v1) (T := 24) [.slice A 24 c, .slice A1 32 c1, .slice A' n' c'] [seed, adP d, x] rfl (fun i hi => match i, hi with | 0, _ => (h1.bel hK1).pt hn hc | 1, _ => (hRp.bel hBp_1).pt (adP_len _) hcp | 2, _ => (h2.bel hK1).pt hn' hc' | m + 3, h => absurd h (by simp))
  have hz2 : (v1.alloc (.cells #[.slice A 24 c, .slice A1 32 c1, .slice A' n' c'] 24)).heap.size = v1.heap.size + 1 := by simp
  have hK2 := bal hK1 hK1.size (.cells #[.slice A 24 c, .slice A1 32 c1, .slice A' n' c'] 24)
  have hBp_2 := bal hBp_1 hBp_1.size (.cells #[.slice A 24 c, .slice A1 32 c1, .slice A' n' c'] 24)
  have hcx_2 := hcx_1.alloc (.cells #[.slice A 24 c, .slice A1 32 c1, .slice A' n' c'] 24)
  have hlx_2 := Nat.lt_of_lt_of_le hlx_1 (al_le v1 (.cells #[.slice A 24 c, .slice A1 32 c1, .slice A' n' c'] 24))
  change Calls _ _ _ (v1.alloc (.cells #[.slice A 24 c, .slice A1 32 c1, .slice A' n' c'] 24)) _
  change Parts (v1.alloc (.cells #[.slice A 24 c, .slice A1 32 c1, .slice A' n' c'] 24)) _ _ _ at hP
  generalize v1.alloc (.cells #[.slice A 24 c, .slice A1 32 c1, .slice A' n' c'] 24) = v2 at hK2 hBp_2 hcx_2 hlx_2 hz2 hP ⊢
  clear hK1 hBp_1 hcx_1 hlx_1
  clear hRp hBp_2
  obtain ⟨T, hTT⟩ : ∃ T, seed ++ adP d ++ x = T := ⟨_, rfl⟩
  have hTl : T.length = 56 + n' := by rw [← hTT]; simp [adP_len, hn, hn']; omega
  have hTb : Bys T := by rw [← hTT]; exact (hb.append (adP_B d)).append hb2
  have hfl : [seed, adP d, x].flatten = T := by rw [← hTT]; simp
  have HTT := Lib.hid (And.intro hTT hTl)
  (with_reducible refine (rcat_any v2 (some ⟨v1.heap.size, 0, none⟩) 3 (v1.heap.size + 1) 3 [seed, adP d, x] T hfl hP rfl (by omega) (by omega) (by omega)).mono ?_)
  rintro e v3 ⟨A3, c3, rfl, hF3, hb3⟩
  have hK3 := bnx hK2 hb3 hK2.size
  have hcx_3 := hcx_2.below hb3 hlx_2
  have hlx_3 := Nat.lt_of_lt_of_le hlx_2 hb3.size
  have hRt := hF3.rd
  have hBt_3 := Below.refl v3.heap.size v3
  clear hK2 hcx_2 hlx_2 hb3 hP hTT hz2 hfl hF3
  rw [hTl]
  clear hTl
  go_wp2_with fail
  (with_reducible refine (refsum_n T A3 (56 + n') c3 v3.heap.size 24 24 v3 (hRt.bel hBt_3) (Nat.le_refl _) (by have := HTT.out.2; omega) (by decide) hTb HTT.out.2 rfl).mono ?_)
  rintro e v4 ⟨A4, c4, rfl, hF4, hcz, hb4⟩
  have hK4 := bnx hK3 hb4 hK3.size
  have hBt_4 := bnx hBt_3 hb4 hBt_3.size
  have hcx_4 := hcx_3.below hb4 hlx_3
  have hlx_4 := Nat.lt_of_lt_of_le hlx_3 hb4.size
  rw [← HTT.out.1] at hF4
  have hFz : Rd v4 v4.heap.size .u8 A4 (twL 24 seed d x) := hF4
  clear hK3 hBt_3 hcx_3 hlx_3 hb4 hF4
  go_wp2_with fail
  go_ret
  exact ⟨_, _, rfl, hFz, hcz, hK4⟩
set_option maxRecDepth 100000 in
set_option maxHeartbeats 2000000 in
theorem rtwno_24 (seed : List Int) (d : Ad) (x : List Int) (A A' : Option Addr) (n c n' c' : Nat) (N : Int) (w : World) (hd : d.ok) (h1 : Rd w w.heap.size .u8 A seed) (hn : seed.length = n) (hc : n ≤ c) (hb : Bys seed) (h2 : Rd w w.heap.size .u8 A' x) (hn' : x.length = n') (hc' : n' ≤ c') (hl' : n' ≤ 300000) (hb2 : Bys x) (hN : N = 24) (hok : ¬ n = 24) :
    Calls Tryd.prog 42 #[.int .i64 N, .slice A n c, .agg d.cs, .slice A' n' c'] w (NilP w) := by
  subst hN
  have e1 : ((n : Int) != 24) = true := by simp; omega
  have hX := Blk.new w 46 d.cs
  have hK0 := bal (Below.refl w.heap.size w) (Nat.le_refl _) (.cells d.cs 46)
  have hl0 := hX.lt
  go_enter Tryd.func42, Tryd.ntmps42
  go_upto_region 1 with fail
  change Code.wp _ _ _ _ (w.alloc (.cells d.cs 46))
  generalize w.alloc (.cells d.cs 46) = w0 at hX hK0 hl0 ⊢
  go_wp2_with fail
  go_ret
  exact ⟨rfl, hK0⟩
set_option maxRecDepth 100000 in
set_option maxHeartbeats 2000000 in
theorem rtw_32 (seed : List Int) (d : Ad) (x : List Int) (A A' : Option Addr) (n c n' c' : Nat) (N : Int) (w : World) (hd : d.ok) (h1 : Rd w w.heap.size .u8 A seed) (hn : seed.length = n) (hc : n ≤ c) (hb : Bys seed) (h2 : Rd w w.heap.size .u8 A' x) (hn' : x.length = n') (hc' : n' ≤ c') (hl' : n' ≤ 300000) (hb2 : Bys x) (hN : N = 32) (hok : n = 32) :
    Calls Tryd.prog 42 #[.int .i64 N, .slice A n c, .agg d.cs, .slice A' n' c'] w (OutR w (twL 32 seed d x) 32) := by
  subst hN
  subst hok
  have hX := Blk.new w 46 d.cs
  have hK0 := bal (Below.refl w.heap.size w) (Nat.le_refl _) (.cells d.cs 46)
  have hl0 := hX.lt
  go_enter Tryd.func42, Tryd.ntmps42
  go_upto_region 1 with fail
  change Code.wp _ _ _ _ (w.alloc (.cells d.cs 46))
  generalize w.alloc (.cells d.cs 46) = w0 at hX hK0 hl0 ⊢
  go_wp2_with (refine wpList_load_row (o := ⟨some 26, _, _, _, _, _⟩) rfl 46 _ rfl w.heap.size rfl _ d.cs (0, 0) _ hX Tryd.underlying46 rfl (by kernel_rfl) ?_)
  (with_reducible refine (rplain_any d w0 hd).mono ?_)
  rintro e v1 ⟨A1, c1, rfl, hF1, hb1⟩
  have hK1 := bnx hK0 hb1 hK0.size
  have hcx_1 := hX.below hb1 hl0
  have hlx_1 := Nat.lt_of_lt_of_le hl0 hb1.size
  have hcp : 32 ≤ c1 := by have := hF1.cap; rw [adP_len] at this; exact this
  have hRp := hF1.rd
  have hBp_1 := Below.refl v1.heap.size v1
  clear hK0 hX hl0 hb1 hF1
  go_wp2_with fail
  have hP := parts_of (w := v1) (T := 24) [.slice A 32 c, .slice A1 32 c1, .slice A' n' c'] [seed, adP d, x] rfl (fun i hi => match i, hi with | 0, _ => (h1.bel hK1).pt hn hc | 1, _ => (hRp.bel hBp_1).pt (adP_len _) hcp | 2, _ => (h2.bel hK1).pt hn' hc' | m + 3, h => absurd h (by simp))
  have hz2 : (v1.alloc (.cells #[.slice A 32 c, .slice A1 32 c1, .slice A' n' c'] 24)).heap.size = v1.heap.size + 1 := by simp
  have hK2 := bal hK1 hK1.size (.cells #[.slice A 32 c, .slice A1 32 c1, .slice A' n' c'] 24)
  have hBp_2 := bal hBp_1 hBp_1.size (.cells #[.slice A 32 c, .slice A1 32 c1, .slice A' n' c'] 24)
  have hcx_2 := hcx_1.alloc (.cells #[.slice A 32 c, .slice A1 32 c1, .slice A' n' c'] 24)
  have hlx_2 := Nat.lt_of_lt_of_le hlx_1 (al_le v1 (.cells #[.slice A 32 c, .slice A1 32 c1, .slice A' n' c'] 24))
  change Calls _ _ _ (v1.alloc (.cells #[.slice A 32 c, .slice A1 32 c1, .slice A' n' c'] 24)) _
  change Parts (v1.alloc (.cells #[.slice A 32 c, .slice A1 32 c1, .slice A' n' c'] 24)) _ _ _ at hP
  generalize v1.alloc (.cells #[.slice A 32 c, .slice A1 32 c1, .slice A' n' c'] 24) = v2 at hK2 hBp_2 hcx_2 hlx_2 hz2 hP ⊢
  clear hK1 hBp_1 hcx_1 hlx_1
  clear hRp hBp_2
  obtain ⟨T, hTT⟩ : ∃ T, seed ++ adP d ++ x = T := ⟨_, rfl⟩
  have hTl : T.length = 64 + n' := by rw [← hTT]; simp [adP_len, hn, hn']; omega
  have hTb : Bys T := by rw [← hTT]; exact (hb.append (adP_B d)).append hb2
  have hfl : [seed, adP d, x].flatten = T := by rw [← hTT]; simp
  have HTT := Lib.hid (And.intro hTT hTl)
  (with_reducible refine (rcat_any v2 (some ⟨v1.heap.size, 0, none⟩) 3 (v1.heap.size + 1) 3 [seed, adP d, x] T hfl hP rfl (by omega) (by omega) (by omega)).mono ?_)
  rintro e v3 ⟨A3, c3, rfl, hF3, hb3⟩
  have hK3 := bnx hK2 hb3 hK2.size
  have hcx_3 := hcx_2.below hb3 hlx_2
  have hlx_3 := Nat.lt_of_lt_of_le hlx_2 hb3.size
  have hRt := hF3.rd
  have hBt_3 := Below.refl v3.heap.size v3
  clear hK2 hcx_2 hlx_2 hb3 hP hTT hz2 hfl hF3
  rw [hTl]
  clear hTl
  go_wp2_with fail
  (with_reducible refine (refsum_n T A3 (64 + n') c3 v3.heap.size 32 32 v3 (hRt.bel hBt_3) (Nat.le_refl _) (by have := HTT.out.2; omega) (by decide) hTb HTT.out.2 rfl).mono ?_)
  rintro e v4 ⟨A4, c4, rfl, hF4, hcz, hb4⟩
  have hK4 := bnx hK3 hb4 hK3.size
  have hBt_4 := bnx hBt_3 hb4 hBt_3.size
  have hcx_4 := hcx_3.below hb4 hlx_3
  have hlx_4 := Nat.lt_of_lt_of_le hlx_3 hb4.size
  rw [← HTT.out.1] at hF4
  have hFz : Rd v4 v4.heap.size .u8 A4 (twL 32 seed d x) := hF4
  clear hK3 hBt_3 hcx_3 hlx_3 hb4 hF4
  go_wp2_with fail
  go_ret
  exact ⟨_, _, rfl, hFz, hcz, hK4⟩
set_option maxRecDepth 100000 in
set_option maxHeartbeats 2000000 in
theorem rtwno_32 (seed : List Int) (d : Ad) (x : List Int) (A A' : Option Addr) (n c n' c' : Nat) (N : Int) (w : World) (hd : d.ok) (h1 : Rd w w.heap.size .u8 A seed) (hn : seed.length = n) (hc : n ≤ c) (hb : Bys seed) (h2 : Rd w w.heap.size .u8 A' x) (hn' : x.length = n') (hc' : n' ≤ c') (hl' : n' ≤ 300000) (hb2 : Bys x) (hN : N = 32) (hok : ¬ n = 32) :
    Calls Tryd.prog 42 #[.int .i64 N, .slice A n c, .agg d.cs, .slice A' n' c'] w (NilP w) := by
  subst hN
  have e1 : ((n : Int) != 32) = true := by simp; omega
  have hX := Blk.new w 46 d.cs
  have hK0 := bal (Below.refl w.heap.size w) (Nat.le_refl _) (.cells d.cs 46)
  have hl0 := hX.lt
  go_enter Tryd.func42, Tryd.ntmps42
  go_upto_region 1 with fail
  change Code.wp _ _ _ _ (w.alloc (.cells d.cs 46))
  generalize w.alloc (.cells d.cs 46) = w0 at hX hK0 hl0 ⊢
  go_wp2_with fail
  go_ret
  exact ⟨rfl, hK0⟩
set_option maxRecDepth 100000 in
set_option maxHeartbeats 2000000 in
theorem rtw_no (seed : List Int) (d : Ad) (x : List Int) (A A' : Option Addr) (n c n' c' : Nat) (N : Int) (w : World) (hd : d.ok) (h1 : Rd w w.heap.size .u8 A seed) (hn : seed.length = n) (hc : n ≤ c) (hb : Bys seed) (h2 : Rd w w.heap.size .u8 A' x) (hn' : x.length = n') (hc' : n' ≤ c') (hl' : n' ≤ 300000) (hb2 : Bys x) (hN : ¬ N = 16 ∧ ¬ N = 24 ∧ ¬ N = 32) :
    Calls Tryd.prog 42 #[.int .i64 N, .slice A n c, .agg d.cs, .slice A' n' c'] w (NilP w) := by
  obtain ⟨q1, q2, q3⟩ := hN
  have e1 : (N != 16) = true := by simpa using q1
  have e2 : (N != 24) = true := by simpa using q2
  have e3 : (N != 32) = true := by simpa using q3
  have hX := Blk.new w 46 d.cs
  have hK0 := bal (Below.refl w.heap.size w) (Nat.le_refl _) (.cells d.cs 46)
  have hl0 := hX.lt
  go_enter Tryd.func42, Tryd.ntmps42
  go_upto_region 1 with fail
  change Code.wp _ _ _ _ (w.alloc (.cells d.cs 46))
  generalize w.alloc (.cells d.cs 46) = w0 at hX hK0 hl0 ⊢
  go_wp2_with fail
  go_ret
  exact ⟨rfl, hK0⟩
end Go.Proofs.YtfaonieaagepjaaDoor
