/- Layer 14: the sum of a number, a key and a text; prf; the reference's too. Conditions: small lengths; the tables. -/
import Derived.Test.YtfaonieaagepjaaDoorA4C
import Derived.Test.YtfaonieaagepjaaDoorS2I
import Derived.Test.YtfaonieaagepjaaDoorS2O
namespace Go.Proofs.YtfaonieaagepjaaDoor
open Go.RowKit
set_option linter.unusedVariables false
set_option linter.unusedSimpArgs false
def numL (k : Int) (key text : List Int) : List Int := sum2 (zrw 31 ++ [k] ++ key ++ text)
theorem numL_len (k : Int) (key text : List Int) : (numL k key text).length = 32 := sum2_len _
theorem numL_B (k : Int) (key text : List Int) : Bys (numL k key text) := sum2_B _
def prfL (key text : List Int) : List Int := numL 3 key text
theorem prfL_len (key text : List Int) : (prfL key text).length = 32 := numL_len _ _ _
theorem prfL_B (key text : List Int) : Bys (prfL key text) := numL_B _ _ _
set_option maxRecDepth 100000 in
set_option maxHeartbeats 2000000 in
theorem num_any (k : Int) (key l : List Int) (A A' : Option Addr) (n c n' c' : Nat) (w : World) (hk : B8 k) (h1 : Rd w w.heap.size .u8 A key) (hn : key.length = n) (hc : n ≤ c) (hnl : n ≤ 300000) (hkb : Bys key)
    (h2 : Rd w w.heap.size .u8 A' l) (hn' : l.length = n') (hc' : n' ≤ c') (hnl' : n' ≤ 300000) (hb : Bys l) (hT : S2Tb w) :
    Calls Tryd.prog 33 #[.int .u8 k, .slice A n c, .slice A' n' c'] w (OutP w (numL k key l) 32) := by
  go_enter Tryd.func33, Tryd.ntmps33
  go_wp2_with (refine wpList_make_nums rfl _ _ 24 rfl 5 .u8 1 Tryd.underlying24 inf_u8 .i64 .i64 31 31 31 31 rfl rfl rfl rfl (by decide) (by decide) (by decide) ?_; intro w1 hw1)
  have K1 : Below w.heap.size w w1 := by rw [hw1.out]; exact bal (Below.refl _ _) (Nat.le_refl _) _
  have R0 : Rd w1 w1.heap.size .u8 (some ⟨w.heap.size, 0, none⟩) (zrw 31) := by rw [hw1.out]; exact Rd.of_arr (Arr.new w 5 .u8 (zrw 31)) (by simp)
  obtain ⟨w2, hw2⟩ : ∃ v, w1.alloc (.cells (U .u8 [k]) 5) = v := ⟨_, rfl⟩
  have hz2 : w2.heap.size = w1.heap.size + 1 := by rw [← hw2]; simp
  have K2 : Below w.heap.size w w2 := by rw [← hw2]; exact bal K1 K1.size _
  have R02 : Rd w2 w2.heap.size .u8 (some ⟨w.heap.size, 0, none⟩) (zrw 31) := by rw [← hw2]; exact R0.al _
  have R12 : Rd w2 w2.heap.size .u8 (some ⟨w1.heap.size, 0, none⟩) [k] := by rw [← hw2]; exact Rd.of_arr (Arr.new w1 5 .u8 [k]) (by simp)
  have hP := parts_of (w := w2) (T := 24) [.slice (some ⟨w.heap.size, 0, none⟩) 31 31, .slice (some ⟨w1.heap.size, 0, none⟩) 1 1, .slice A n c, .slice A' n' c'] [zrw 31, [k], key, l] rfl (fun i hi => match i, hi with
    | 0, _ => R02.pt (zrw_len _) (Nat.le_refl _)
    | 1, _ => R12.pt rfl (Nat.le_refl _)
    | 2, _ => (h1.bel K2).pt hn hc
    | 3, _ => (h2.bel K2).pt hn' hc'
    | m + 4, h => absurd h (by simp))
  have K3 := bal K2 K2.size (.cells #[.slice (some ⟨w.heap.size, 0, none⟩) 31 31, .slice (some ⟨w1.heap.size, 0, none⟩) 1 1, .slice A n c, .slice A' n' c'] 24)
  have hz3 : (w2.alloc (.cells #[.slice (some ⟨w.heap.size, 0, none⟩) 31 31, .slice (some ⟨w1.heap.size, 0, none⟩) 1 1, .slice A n c, .slice A' n' c'] 24)).heap.size = w2.heap.size + 1 := by simp
  change Calls _ _ _ ((w1.alloc (.cells (U .u8 [k]) 5)).alloc (.cells #[.slice (some ⟨w.heap.size, 0, none⟩) 31 31, .slice (some ⟨w1.heap.size, 0, none⟩) 1 1, .slice A n c, .slice A' n' c'] 24)) _
  rw [hw2, ← hz2]
  change Parts (w2.alloc (.cells #[.slice (some ⟨w.heap.size, 0, none⟩) 31 31, .slice (some ⟨w1.heap.size, 0, none⟩) 1 1, .slice A n c, .slice A' n' c'] 24)) _ _ _ at hP
  generalize w2.alloc (.cells #[.slice (some ⟨w.heap.size, 0, none⟩) 31 31, .slice (some ⟨w1.heap.size, 0, none⟩) 1 1, .slice A n c, .slice A' n' c'] 24) = w3 at hP K3 hz3 ⊢
  clear K1 R0 hw2 R02 R12 K2
  obtain ⟨T, hTT⟩ : ∃ T, zrw 31 ++ [k] ++ key ++ l = T := ⟨_, rfl⟩
  have hTl : T.length = 32 + n + n' := by rw [← hTT]; simp [zrw_len, hn, hn']; omega
  have hTb : Bys T := by rw [← hTT]; exact (((zrw_B 31).append (Bys.one hk)).append hkb).append hb
  have hfl : [zrw 31, [k], key, l].flatten = T := by rw [← hTT]; simp
  have HTT := Lib.hid (And.intro hTT hTl)
  (with_reducible refine (cat_any w3 (some ⟨w2.heap.size, 0, none⟩) 4 (w2.heap.size + 1) 4 [zrw 31, [k], key, l] T hfl hP rfl (by omega) (by omega) (by omega) (by omega)).mono ?_)
  rintro e w4 ⟨A4, c4, rfl, hF4, hb4⟩
  have K4 := bnx K3 hb4 K3.size
  have R4 := hF4.rd
  have hs4 := K4.size
  rw [hTl]
  clear hF4 hb4 K3 hP hTT hTl hfl hz2 hz3
  go_wp2_with fail
  (with_reducible refine (one2_any T (numL k key l) A4 (32 + n + n') c4 w4.heap.size w4 (by rw [numL, HTT.out.1]) R4 (Nat.le_refl _) HTT.out.2 (by omega) hTb (hT.below K4 (Nat.le_refl _))).mono ?_)
  rintro e w5 ⟨A5, c5, rfl, hF5, hb5⟩
  have K5 := bnx K4 hb5 K4.size
  have hF6 := hF5.low (b' := w.heap.size) hs4
  clear hF5 hb5 K4 R4
  go_wp2_with fail
  go_ret
  exact ⟨_, _, rfl, hF6, K5⟩
set_option maxRecDepth 100000 in
theorem prf_any (key l : List Int) (A A' : Option Addr) (n c n' c' : Nat) (w : World) (h1 : Rd w w.heap.size .u8 A key) (hn : key.length = n) (hc : n ≤ c) (hnl : n ≤ 300000) (hkb : Bys key)
    (h2 : Rd w w.heap.size .u8 A' l) (hn' : l.length = n') (hc' : n' ≤ c') (hnl' : n' ≤ 300000) (hb : Bys l) (hT : S2Tb w) :
    Calls Tryd.prog 35 #[.slice A n c, .slice A' n' c'] w (OutP w (prfL key l) 32) := by
  go_enter Tryd.func35, Tryd.ntmps35
  go_wp2_with fail
  (with_reducible refine (num_any 3 key l A A' n c n' c' w (by unfold B8; decide) h1 hn hc hnl hkb h2 hn' hc' hnl' hb hT).mono ?_)
  rintro e w1 ⟨A1, c1, rfl, hF1, hb1⟩
  go_wp2_with fail
  go_ret
  exact ⟨_, _, rfl, hF1, hb1⟩
set_option maxRecDepth 100000 in
set_option maxHeartbeats 2000000 in
theorem rnum_any (k : Int) (key l : List Int) (A A' : Option Addr) (n c n' c' : Nat) (w : World) (hk : B8 k) (h1 : Rd w w.heap.size .u8 A key) (hn : key.length = n) (hc : n ≤ c) (hnl : n ≤ 300000) (hkb : Bys key)
    (h2 : Rd w w.heap.size .u8 A' l) (hn' : l.length = n') (hc' : n' ≤ c') (hnl' : n' ≤ 300000) (hb : Bys l) :
    Calls Tryd.prog 34 #[.int .u8 k, .slice A n c, .slice A' n' c'] w (OutP w (numL k key l) 32) := by
  go_enter Tryd.func34, Tryd.ntmps34
  go_upto_region 2 with (refine wpList_make_nums rfl _ _ 24 rfl 5 .u8 1 Tryd.underlying24 inf_u8 .i64 .i64 32 32 32 32 rfl rfl rfl rfl (by decide) (by decide) (by decide) ?_; intro w1 hw1)
  have hO : Own w1 w.heap.size 5 .u8 (.slice (some ⟨w.heap.size, 0, none⟩) 32 32) (List.replicate 32 0) := by rw [hw1.out]; exact Own.made w 32 (Nat.le_refl _) (by decide)
  have K1 : Kept w.heap.size (fun _ => False) w w1 := by rw [hw1.out]; exact (Kept.refl _ _ _).alloc _ (Nat.le_refl _)
  have hcell := hO.cell 31 (by simp)
  have hfree := hO.free 31
  have hO2 := hO.stored 31 k
  have K2 := K1.set w.heap.size 31 (.int .u8 k) (.inl (Nat.le_refl _))
  have est : st (List.replicate 32 0) 31 k = zrw 31 ++ [k] := rfl
  rw [est] at hO2
  go_upto_region 3 with fail
  generalize w1.setCell ⟨w.heap.size, 31, none⟩ (.int .u8 k) = w2 at hO2 K2 ⊢
  have KB := K2.below
  have R0 := hO2.rd
  clear hO K1 hcell hfree hO2 K2 est
  have hP := parts_of (w := w2) (T := 24) [.slice (some ⟨w.heap.size, 0, none⟩) 32 32, .slice A n c, .slice A' n' c'] [zrw 31 ++ [k], key, l] rfl (fun i hi => match i, hi with
    | 0, _ => R0.pt (by simp [zrw_len]) (Nat.le_refl _)
    | 1, _ => (h1.bel KB).pt hn hc
    | 2, _ => (h2.bel KB).pt hn' hc'
    | m + 3, h => absurd h (by simp))
  have K3 := bal KB KB.size (.cells #[.slice (some ⟨w.heap.size, 0, none⟩) 32 32, .slice A n c, .slice A' n' c'] 24)
  have hz3 : (w2.alloc (.cells #[.slice (some ⟨w.heap.size, 0, none⟩) 32 32, .slice A n c, .slice A' n' c'] 24)).heap.size = w2.heap.size + 1 := by simp
  change Parts (w2.alloc (.cells #[.slice (some ⟨w.heap.size, 0, none⟩) 32 32, .slice A n c, .slice A' n' c'] 24)) _ _ _ at hP
  go_wp2_with fail
  generalize w2.alloc (.cells #[.slice (some ⟨w.heap.size, 0, none⟩) 32 32, .slice A n c, .slice A' n' c'] 24) = w3 at hP K3 hz3 ⊢
  clear R0
  obtain ⟨T, hTT⟩ : ∃ T, zrw 31 ++ [k] ++ key ++ l = T := ⟨_, rfl⟩
  have hTl : T.length = 32 + n + n' := by rw [← hTT]; simp [zrw_len, hn, hn']; omega
  have hTb : Bys T := by rw [← hTT]; exact (((zrw_B 31).append (Bys.one hk)).append hkb).append hb
  have hfl : [zrw 31 ++ [k], key, l].flatten = T := by rw [← hTT]; simp
  have HTT := Lib.hid (And.intro hTT hTl)
  (with_reducible refine (rcat_any w3 (some ⟨w2.heap.size, 0, none⟩) 3 (w2.heap.size + 1) 3 [zrw 31 ++ [k], key, l] T hfl hP rfl (by omega) (by omega) (by omega)).mono ?_)
  rintro e w4 ⟨A4, c4, rfl, hF4, hb4⟩
  have K4 := bnx K3 hb4 K3.size
  have R4 := hF4.rd
  have hs4 := K4.size
  rw [hTl]
  clear hF4 hb4 K3 hP hTT hTl hfl hz3
  go_wp2_with fail
  (with_reducible refine (rone2_any T (numL k key l) A4 c4 w4.heap.size (32 + n + n') w4 (by rw [numL, HTT.out.1]) R4 (Nat.le_refl _) (by have := HTT.out.2; omega) HTT.out.2 hTb).mono ?_)
  rintro e w5 ⟨A5, c5, rfl, hF5, hb5⟩
  have K5 := bnx K4 hb5 K4.size
  have hF6 := hF5.low (b' := w.heap.size) hs4
  clear hF5 hb5 K4 R4
  go_wp2_with fail
  go_ret
  exact ⟨_, _, rfl, hF6, K5⟩
set_option maxRecDepth 100000 in
theorem rprf_any (key l : List Int) (A A' : Option Addr) (n c n' c' : Nat) (w : World) (h1 : Rd w w.heap.size .u8 A key) (hn : key.length = n) (hc : n ≤ c) (hnl : n ≤ 300000) (hkb : Bys key)
    (h2 : Rd w w.heap.size .u8 A' l) (hn' : l.length = n') (hc' : n' ≤ c') (hnl' : n' ≤ 300000) (hb : Bys l) :
    Calls Tryd.prog 36 #[.slice A n c, .slice A' n' c'] w (OutP w (prfL key l) 32) := by
  go_enter Tryd.func36, Tryd.ntmps36
  go_wp2_with fail
  (with_reducible refine (rnum_any 3 key l A A' n c n' c' w (by unfold B8; decide) h1 hn hc hnl hkb h2 hn' hc' hnl' hb).mono ?_)
  rintro e w1 ⟨A1, c1, rfl, hF1, hb1⟩
  go_wp2_with fail
  go_ret
  exact ⟨_, _, rfl, hF1, hb1⟩
end Go.Proofs.YtfaonieaagepjaaDoor
