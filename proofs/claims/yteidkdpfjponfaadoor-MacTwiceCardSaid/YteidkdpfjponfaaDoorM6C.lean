/- Layer 6: Size, Sum and Mac, both kinds, walked. Conditions: what is read reads as bytes, small lengths; the tables. -/
import Derived.Test.YteidkdpfjponfaaDoorM6B
import Derived.Test.YteidkdpfjponfaaDoorZA
namespace Go.Proofs.YteidkdpfjponfaaDoor
open Go.RowKit
set_option linter.unusedVariables false
set_option linter.unusedSimpArgs false
structure MTb (w : World) : Prop where
  t2 : S2Tb w
  t5 : S5Tab w
theorem S5Tab.lt {w : World} (h : S5Tab w) : 3 < w.heap.size ∧ 2 < w.heap.size :=
  ⟨World.block_lt_of_cell? w _ (h.1 0 (by decide)), World.block_lt_of_cell? w _ (h.2 0 (by decide))⟩
theorem MTb.below {w w' : World} {B : Nat} (h : MTb w) (hk : Below B w w') (hB : w.heap.size ≤ B) : MTb w' :=
  ⟨h.t2.below hk hB, h.t5.below hk (by have := h.t5.lt.1; omega) (by have := h.t5.lt.2; omega)⟩
def sumK (k : Nat) (l : List Int) : List Int := if k = 0 then sum2 l else sum5 l
def lnK (k : Nat) : Nat := if k = 0 then 32 else 64
def bkK (k : Nat) : Nat := if k = 0 then 64 else 128
theorem sumK_len (k : Nat) (l : List Int) : (sumK k l).length = lnK k := by unfold sumK lnK; split; exact sum2_len l; exact sum5_len l
theorem sumK_B (k : Nat) (l : List Int) : Bys (sumK k l) := by unfold sumK; split; exact sum2_B l; exact sum5_B l
def keyK (k : Nat) (key : List Int) : List Int := if bkK k < key.length then sumK k key else key
def macK (k : Nat) (key text : List Int) : List Int := sumK k (xorB (padL (keyK k key) (bkK k)) 92 ++ sumK k (xorB (padL (keyK k key) (bkK k)) 54 ++ text))
theorem Rd.bel {w w' : World} {k : IntKind} {A : Option Addr} {l : List Int} (h : Rd w w.heap.size k A l) (hb : Below w.heap.size w w') : Rd w' w'.heap.size k A l := (h.below hb).more hb.size
theorem Rd.al {w : World} {k : IntKind} {A : Option Addr} {l : List Int} (h : Rd w w.heap.size k A l) (x : Obj) : Rd (w.alloc x) (w.alloc x).heap.size k A l := (h.alloc (Nat.le_refl _) x).more (by simp)
theorem bnx {B : Nat} {w w1 w2 : World} (h : Below B w w1) (hb : Below w1.heap.size w1 w2) (hB : B ≤ w1.heap.size) : Below B w w2 := h.trans (hb.mono hB)
theorem bal {B : Nat} {w w1 : World} (h : Below B w w1) (hB : B ≤ w1.heap.size) (x : Obj) : Below B w (w1.alloc x) := h.alloc hB x
theorem cell_bel {w w' : World} {b i : Nat} {v : Option Value} (h : w.cell? ⟨b, i, none⟩ = v) (hb : Below w.heap.size w w') (hlt : b < w.heap.size) : w'.cell? ⟨b, i, none⟩ = v := (World.cell?_of_block (hb.block b hlt)).trans h
theorem cell_al {w : World} {b i : Nat} {v : Option Value} (h : w.cell? ⟨b, i, none⟩ = v) (hlt : b < w.heap.size) (x : Obj) : (w.alloc x).cell? ⟨b, i, none⟩ = v := (World.cell?_of_block (Below.heap_alloc w x b hlt)).trans h
/-! ### kind 0 -/
theorem one_0 (l : List Int) (A : Option Addr) (n c BB : Nat) (w : World) (hr : Rd w BB .u8 A l) (hBB : BB ≤ w.heap.size) (hn : l.length = n) (hl : n ≤ 1000000) (hc : n ≤ c) (hb : Bys l) (hT : MTb w) :
    Calls Tryd.prog 16 #[.slice A n c] w (OutP w (sumK 0 l) 32) := one2_any l (sumK 0 l) A n c BB w rfl hr hBB hn hl hb hT.t2
set_option maxRecDepth 100000 in
theorem sizes_0 (w : World) : Calls Tryd.prog 26 #[.int .i64 0] w fun e w' => e = .returned (.tuple #[.int .i64 32, .int .i64 64]) ∧ Below w.heap.size w w' := by
  go_enter Tryd.func26, Tryd.ntmps26
  go_wp2_with fail
  (with_reducible refine (of_0 w).mono ?_)
  rintro e w1 ⟨rfl, hb1⟩
  have h0 := Blk.new w1 65 kZ
  have hb2 := bal hb1 hb1.size (.cells kZ 65)
  have hs1 := hb1.size
  go_upto_region 2 with (refine wpList_store_row (o := ⟨none, _, _, _, _, _⟩) rfl 65 _ _ rfl _ kV0 rfl rfl _ kZ h0 (by kernel_rfl) rfl (by kernel_rfl) ?_)
  obtain ⟨b, hb⟩ : ∃ b, w1.heap.size = b := ⟨_, rfl⟩
  have h3 := h0.setRow kV0
  have hb3 := (Kept.setRow (Kept.of_below (S := fun _ => False) hb2) w1.heap.size kV0 (.inl (by omega))).below
  change Code.wp _ _ _ _ ((w1.alloc (.cells kZ 65)).setRow w1.heap.size kV0)
  rw [hb] at h3 hb3 ⊢
  generalize (w1.alloc (.cells kZ 65)).setRow b kV0 = w3 at h3 hb3 ⊢
  refine Lx.enter (fun w' => w'.cell? ⟨b, 0, none⟩ = some (.int .i64 32) ∧ w'.cell? ⟨b, 1, none⟩ = some (.int .i64 64)) 6 (by kernel_rfl) (by kernel_rfl) ⟨h3.drew.cell 0 _ rfl, h3.drew.cell 1 _ rfl⟩ ?_
  (refine Lx.val 0 ?_ rfl (by kernel_rfl) (by kernel_rfl) (by kernel_rfl) (fun _ _ _ h => h) (by kernel_rfl) ?_ ?_; rotate_left 1; focus (intro w hw; go_simp; with_reducible rfl)); (try simp only [Act.put, List.getElem_toArray, List.getElem_cons_succ, List.getElem_cons_zero, List.setIfInBounds_toArray, List.set_cons_zero, List.set_cons_succ])
  (refine Lx.val 1 ?_ rfl (by kernel_rfl) (by kernel_rfl) (by kernel_rfl) (fun _ _ _ h => h) (by kernel_rfl) ?_ ?_; rotate_left 1; focus (intro w hw; have hcell := hw.1; go_simp; with_reducible rfl)); (try simp only [Act.put, List.getElem_toArray, List.getElem_cons_succ, List.getElem_cons_zero, List.setIfInBounds_toArray, List.set_cons_zero, List.set_cons_succ])
  (refine Lx.val 2 ?_ rfl (by kernel_rfl) (by kernel_rfl) (by kernel_rfl) (fun _ _ _ h => h) (by kernel_rfl) ?_ ?_; rotate_left 1; focus (intro w hw; go_simp; with_reducible rfl)); (try simp only [Act.put, List.getElem_toArray, List.getElem_cons_succ, List.getElem_cons_zero, List.setIfInBounds_toArray, List.set_cons_zero, List.set_cons_succ])
  (refine Lx.val 3 ?_ rfl (by kernel_rfl) (by kernel_rfl) (by kernel_rfl) (fun _ _ _ h => h) (by kernel_rfl) ?_ ?_; rotate_left 1; focus (intro w hw; have hcell := hw.2; go_simp; with_reducible rfl)); (try simp only [Act.put, List.getElem_toArray, List.getElem_cons_succ, List.getElem_cons_zero, List.setIfInBounds_toArray, List.set_cons_zero, List.set_cons_succ])
  (refine Lx.val 4 ?_ rfl (by kernel_rfl) (by kernel_rfl) (by kernel_rfl) (fun _ _ _ h => h) (by kernel_rfl) ?_ ?_; rotate_left 1; focus (intro w hw; go_simp; with_reducible rfl)); (try simp only [Act.put, List.getElem_toArray, List.getElem_cons_succ, List.getElem_cons_zero, List.setIfInBounds_toArray, List.set_cons_zero, List.set_cons_succ])
  (refine Lx.val 5 ?_ rfl (by kernel_rfl) (by kernel_rfl) (by kernel_rfl) (fun _ _ _ h => h) (by kernel_rfl) ?_ ?_; rotate_left 1; focus (intro w hw; go_simp; with_reducible rfl)); (try simp only [Act.put, List.getElem_toArray, List.getElem_cons_succ, List.getElem_cons_zero, List.setIfInBounds_toArray, List.set_cons_zero, List.set_cons_succ])
  refine Lx.done (by kernel_rfl) ?_
  intro _
  have hb4 := (Kept.of_below (S := fun _ => False) hb3).drew.below
  generalize w3.drew = w4 at hb4 ⊢
  clear h0 hb hb1 hb2 hs1
  go_wp2_with fail
  go_ret2
  exact ⟨rfl, hb4⟩
set_option maxRecDepth 100000 in
set_option maxHeartbeats 1000000 in
theorem sums_0 (l : List Int) (A : Option Addr) (n c : Nat) (w : World) (hr : Rd w w.heap.size .u8 A l) (hn : l.length = n) (hl : n ≤ 1000000) (hc : n ≤ c) (hb : Bys l) (hT : MTb w) :
    Calls Tryd.prog 28 #[.int .i64 0, .slice A n c] w (OutP w (sumK 0 l) 32) := by
  go_enter Tryd.func28, Tryd.ntmps28
  go_wp2_with fail
  (with_reducible refine (of_0 w).mono ?_)
  rintro e w1 ⟨rfl, hb1⟩
  have h0 := Blk.new w1 65 kZ
  have hb2 := bal hb1 hb1.size (.cells kZ 65)
  have hs1 := hb1.size
  go_upto_region 2 with (refine wpList_store_row (o := ⟨none, _, _, _, _, _⟩) rfl 65 _ _ rfl _ kV0 rfl rfl _ kZ h0 (by kernel_rfl) rfl (by kernel_rfl) ?_)
  obtain ⟨b, hb_⟩ : ∃ b, w1.heap.size = b := ⟨_, rfl⟩
  have h3 := h0.setRow kV0
  have hb3 := (Kept.setRow (Kept.of_below (S := fun _ => False) hb2) w1.heap.size kV0 (.inl (by omega))).below
  change Code.wp _ _ _ _ ((w1.alloc (.cells kZ 65)).setRow w1.heap.size kV0)
  rw [hb_] at h3 hb3 ⊢
  generalize (w1.alloc (.cells kZ 65)).setRow b kV0 = w3 at h3 hb3 ⊢
  have hcf := h3.cell 2 (.func (.func 16) #[] #[]) rfl
  have HS := Lib.hid hb3.size
  clear h0 hb1 hb2 hs1 hb_
  go_wp2_with fail
  (with_reducible refine (one_0 l A n c w.heap.size w3 (hr.below hb3) HS.out hn hl hc hb (hT.below hb3 (Nat.le_refl _))).mono ?_)
  rintro e w4 ⟨A4, c4, rfl, hF4, hb4⟩
  have hK4 := bnx hb3 hb4 HS.out
  have hF5 := hF4.low (b' := w.heap.size) HS.out
  clear hb3 hb4 hF4 hcf h3
  go_wp2_with fail
  go_ret
  exact ⟨_, _, rfl, hF5, hK4⟩
set_option maxRecDepth 100000 in
set_option maxHeartbeats 2000000 in
theorem macS_0 (key l : List Int) (A A' : Option Addr) (n c n' c' : Nat) (w : World) (hk : Rd w w.heap.size .u8 A key) (hkn : key.length = n) (hkl : n ≤ 1000000) (hkc : n ≤ c) (hkb : Bys key) (hr : Rd w w.heap.size .u8 A' l) (hn : l.length = n') (hl : n' ≤ 900000) (hc : n' ≤ c') (hb : Bys l) (hT : MTb w) (hlong : ¬ 64 < n) :
    Calls Tryd.prog 30 #[.int .i64 0, .slice A n c, .slice A' n' c'] w (OutP w (macK 0 key l) 32) := by
  have hlI : ¬ (64 : Int) < (n : Int) := by omega
  have hmx : (200000000 : Nat) ≤ maxLen := by decide
  go_enter Tryd.func30, Tryd.ntmps30
  go_wp2_with fail
  (with_reducible refine (of_0 w).mono ?_)
  rintro e w1 ⟨rfl, hb1⟩
  have h0 := Blk.new w1 65 kZ
  have hb2 := bal hb1 hb1.size (.cells kZ 65)
  have hs1 := hb1.size
  have hz : (w1.alloc (.cells kZ 65)).heap.size = w1.heap.size + 1 := by simp
  go_upto_region 2 with (refine wpList_store_row (o := ⟨none, _, _, _, _, _⟩) rfl 65 _ _ rfl _ kV0 rfl rfl _ kZ h0 (by kernel_rfl) rfl (by kernel_rfl) ?_)
  obtain ⟨b, hb_⟩ : ∃ b, w1.heap.size = b := ⟨_, rfl⟩
  have h3 := h0.setRow kV0
  have hb3 := (Kept.setRow (Kept.of_below (S := fun _ => False) hb2) w1.heap.size kV0 (.inl (by omega))).below
  have hz3 : ((w1.alloc (.cells kZ 65)).setRow w1.heap.size kV0).heap.size = w1.heap.size + 1 := by simp
  change Code.wp _ _ _ _ ((w1.alloc (.cells kZ 65)).setRow w1.heap.size kV0)
  rw [hb_] at h3 hb3 hz3 ⊢
  generalize (w1.alloc (.cells kZ 65)).setRow b kV0 = w3 at h3 hb3 hz3 ⊢
  have hcf := h3.cell 2 (.func (.func 16) #[] #[]) rfl
  have hcb := h3.cell 1 (.int .i64 64) rfl
  have HB : Hid (w.heap.size ≤ b ∧ b < w3.heap.size) := Lib.hid ⟨by omega, h3.lt⟩
  clear h0 hb1 hb2 hs1 hb_ hz hz3
  have hky := hk.bel hb3
  have hkK : keyK 0 key = key := by unfold keyK; rw [if_neg (by rw [hkn]; exact hlong)]
  have hkyl := hkn
  have hkyb := hkb
  clear h3 hk hkn hkb
  have hBl : n ≤ 64 := by omega
  have hO6 := Own.made (b := w3.heap.size) (e := 5) (k := .u8) w3 64 (Nat.le_refl _) (by omega)
  go_upto_region 7 with (refine wpList_make_nums rfl _ _ 22 rfl 5 .u8 1 Tryd.underlying22 inf_u8 .i64 .i64 64 64 64 64 rfl rfl rfl rfl (by decide) (by decide) (by decide) ?_; intro w5 hw5)
  obtain rfl := hw5.out
  have hA6 := Arr.new w3 5 .u8 (List.replicate 64 0)
  have hK6 := bal hb3 hb3.size (.cells (U .u8 (List.replicate 64 0)) 5)
  have hky6 := hky.al (.cells (U .u8 (List.replicate 64 0)) 5)
  have hcf6 := cell_al hcf HB.out.2 (.cells (U .u8 (List.replicate 64 0)) 5)
  have hz6 : (w3.alloc (.cells (U .u8 (List.replicate 64 0)) 5)).heap.size = w3.heap.size + 1 := by simp
  change Code.wp _ _ _ _ (w3.alloc (.cells (U .u8 (List.replicate 64 0)) 5))
  obtain ⟨h, hh⟩ : ∃ h, w3.heap.size = h := ⟨_, rfl⟩
  rw [hh] at hA6 hz6 hky ⊢
  have hky7 := hky.alloc (Nat.le_of_eq hh.symm) (.cells (U .u8 (List.replicate 64 0)) 5)
  generalize w3.alloc (.cells (U .u8 (List.replicate 64 0)) 5) = w6 at hA6 hK6 hky6 hky7 hcf6 hz6 ⊢
  have HB6 : Hid (w.heap.size ≤ b ∧ b < h ∧ w.heap.size ≤ h) := Lib.hid ⟨HB.out.1, by have := HB.out.2; omega, by have := hb3.size; omega⟩
  clear hO6 hb3 hcf hcb HB hky hh
  go_upto_region 8 with (refine wpList_copy_zero (o := ⟨some 31, _, _, _, _, _⟩) rfl _ _ 22 5 rfl Tryd.underlying22 (by kernel_rfl) hA6 hky7 (by omega) hkyl rfl rfl ?_; intro w7 hA7 hk7)
  have hs7 := hk7.size
  have hK7 : Below w.heap.size w w7 := (Kept.trans (Kept.of_below (S := fun _ => False) hK6) (S' := fun _ => False) hk7 HB6.out.2.2 (fun _ _ h => h)).below
  have hcf7 : w7.cell? ⟨b, 2, none⟩ = some (.func (.func 16) #[] #[]) := (World.cell?_of_block (hk7.block b HB6.out.2.1 (fun h => h))).trans hcf6
  obtain ⟨own, hown⟩ : ∃ q, padL key 64 = q := ⟨_, rfl⟩
  have holn : own.length = 64 := by rw [← hown]; exact padL_len _ _ (by omega)
  have hmk : macK 0 key l = sumK 0 (xorB own 92 ++ sumK 0 (xorB own 54 ++ l)) := by
    unfold macK; rw [hkK, show bkK 0 = 64 from rfl, hown]
  rw [hown] at hA7
  have hz7 : h < w7.heap.size ∧ b < w7.heap.size ∧ w.heap.size ≤ w7.heap.size := by have := HB6.out; omega
  have hRo := Rd.of_arr (B := w7.heap.size) hA7 hz7.1
  clear hA6 hK6 hky6 hky7 hcf6 hz6 hk7 hs7 hkK hkyb hown hA7
  refine Lx.enter (fun w' => w'.cell? ⟨b, 2, none⟩ = some (.func (.func 16) #[] #[])) 16 (by kernel_rfl) (by kernel_rfl) hcf7 ?_
  (refine Lx.val 0 ?_ rfl (by kernel_rfl) (by kernel_rfl) (by kernel_rfl) (fun _ _ _ h => h) (by kernel_rfl) ?_ ?_; rotate_left 1; focus (intro w hw; go_simp; with_reducible rfl)); (try simp only [Act.put, List.getElem_toArray, List.getElem_cons_succ, List.getElem_cons_zero, List.setIfInBounds_toArray, List.set_cons_zero, List.set_cons_succ])
  (refine Lx.val 1 ?_ rfl (by kernel_rfl) (by kernel_rfl) (by kernel_rfl) (fun _ _ _ h => h) (by kernel_rfl) ?_ ?_; rotate_left 1; focus (intro w hw; have hcell := hw; go_simp; with_reducible rfl)); (try simp only [Act.put, List.getElem_toArray, List.getElem_cons_succ, List.getElem_cons_zero, List.setIfInBounds_toArray, List.set_cons_zero, List.set_cons_succ])
  (refine Lx.val 2 ?_ rfl (by kernel_rfl) (by kernel_rfl) (by kernel_rfl) (fun _ _ _ h => h) (by kernel_rfl) ?_ ?_; rotate_left 1; focus (intro w hw; go_simp; with_reducible rfl)); (try simp only [Act.put, List.getElem_toArray, List.getElem_cons_succ, List.getElem_cons_zero, List.setIfInBounds_toArray, List.set_cons_zero, List.set_cons_succ])
  (refine Lx.val 4 ?_ rfl (by kernel_rfl) (by kernel_rfl) (by kernel_rfl) (fun _ _ _ h => h) (by kernel_rfl) ?_ ?_; rotate_left 1; focus (intro w hw; go_simp; with_reducible rfl)); (try simp only [Act.put, List.getElem_toArray, List.getElem_cons_succ, List.getElem_cons_zero, List.setIfInBounds_toArray, List.set_cons_zero, List.set_cons_succ])
  (refine Lx.val 5 ?_ rfl (by kernel_rfl) (by kernel_rfl) (by kernel_rfl) (fun _ _ _ h => h) (by kernel_rfl) ?_ ?_; rotate_left 1; focus (intro w hw; have hcell := hw; go_simp; with_reducible rfl)); (try simp only [Act.put, List.getElem_toArray, List.getElem_cons_succ, List.getElem_cons_zero, List.setIfInBounds_toArray, List.set_cons_zero, List.set_cons_succ])
  (refine Lx.val 6 ?_ rfl (by kernel_rfl) (by kernel_rfl) (by kernel_rfl) (fun _ _ _ h => h) (by kernel_rfl) ?_ ?_; rotate_left 1; focus (intro w hw; go_simp; with_reducible rfl)); (try simp only [Act.put, List.getElem_toArray, List.getElem_cons_succ, List.getElem_cons_zero, List.setIfInBounds_toArray, List.set_cons_zero, List.set_cons_succ])
  (refine Lx.val 8 ?_ rfl (by kernel_rfl) (by kernel_rfl) (by kernel_rfl) (fun _ _ _ h => h) (by kernel_rfl) ?_ ?_; rotate_left 1; focus (intro w hw; go_simp; with_reducible rfl)); (try simp only [Act.put, List.getElem_toArray, List.getElem_cons_succ, List.getElem_cons_zero, List.setIfInBounds_toArray, List.set_cons_zero, List.set_cons_succ])
  have hK8 := (Kept.of_below (S := fun _ => False) hK7).drew.below
  have hRo8 := hRo.drew
  have hz8 : h < w7.drew.heap.size ∧ b < w7.drew.heap.size ∧ w.heap.size ≤ w7.drew.heap.size := hz7
  have hcf8 : w7.drew.cell? ⟨b, 2, none⟩ = some (.func (.func 16) #[] #[]) := hcf7
  change Rd w7.drew w7.drew.heap.size _ _ _ at hRo8
  generalize w7.drew = w8 at hK8 hRo8 hz8 hcf8 ⊢
  clear hK7 hRo hz7 hcf7
  refine Lx.call 3 rfl (by kernel_rfl) (by kernel_rfl) (by kernel_rfl) (fun _ => (mixed_any own 92 (some ⟨h, 0, none⟩) 64 64 w8.heap.size w8 hRo8 (Nat.le_refl _) holn (by omega) (fun h => by cases h)).mono ?_)
  rintro e w9 ⟨A9, c9, rfl, hF9, hb9⟩
  refine ⟨_, rfl, cell_bel hcf8 hb9 hz8.2.1, ?_⟩
  (try simp only [Act.put, List.getElem_toArray, List.getElem_cons_succ, List.getElem_cons_zero, List.setIfInBounds_toArray, List.set_cons_zero, List.set_cons_succ])
  have hK9 := bnx hK8 hb9 hz8.2.2
  have hRo9 := hRo8.bel hb9
  have hs9 := hb9.size
  have hcf9 := cell_bel hcf8 hb9 hz8.2.1
  have hR9 := hF9.rd
  have hc9 : 64 ≤ c9 := by have := hF9.cap; rw [xorB_len, holn] at this; exact this
  clear hF9 hb9 hRo8 hK8 hcf8
  refine Lx.call 7 rfl (by kernel_rfl) (by kernel_rfl) (by kernel_rfl) (fun _ => (mixed_any own 54 (some ⟨h, 0, none⟩) 64 64 w9.heap.size w9 hRo9 (Nat.le_refl _) holn (by omega) (fun h => by cases h)).mono ?_)
  rintro e w10 ⟨A10, c10, rfl, hF10, hb10⟩
  refine ⟨_, rfl, cell_bel hcf9 hb10 (by omega), ?_⟩
  (try simp only [Act.put, List.getElem_toArray, List.getElem_cons_succ, List.getElem_cons_zero, List.setIfInBounds_toArray, List.set_cons_zero, List.set_cons_succ])
  have hK10 := bnx hK9 hb10 (by omega)
  have hs10 := hb10.size
  have hcf10 := cell_bel hcf9 hb10 (by omega)
  have hR9' := hR9.bel hb10
  have hR10 := hF10.rd
  have hc10 : 64 ≤ c10 := by have := hF10.cap; rw [xorB_len, holn] at this; exact this
  have hl10 := (hr.bel hK10)
  have hP := parts2w (w := w10) (B := w10.heap.size) (T := 22) (Nat.le_refl _) (hR10.partw (n := 64) (c := c10) (by rw [xorB_len, holn]) hc10) (hl10.partw (n := n') (c := c') hn hc)
  have hK11 := bal hK10 (by omega) (.cells #[.slice A10 64 c10, .slice A' n' c'] 22)
  have hR11 := hR9'.al (.cells #[.slice A10 64 c10, .slice A' n' c'] 22)
  have hcf11 := cell_al hcf10 (by omega) (.cells #[.slice A10 64 c10, .slice A' n' c'] 22)
  have hz11 : (w10.alloc (.cells #[.slice A10 64 c10, .slice A' n' c'] 22)).heap.size = w10.heap.size + 1 := by simp
  refine Lx.made (w' := w10.alloc (.cells #[.slice A10 64 c10, .slice A' n' c'] 22)) 9 (.slice (some ⟨w10.heap.size, 0, none⟩) 2 2) rfl (by kernel_rfl) (by kernel_rfl) (by kernel_rfl) (fun _ => hcf11) ?_
  (try simp only [Act.put, List.getElem_toArray, List.getElem_cons_succ, List.getElem_cons_zero, List.setIfInBounds_toArray, List.set_cons_zero, List.set_cons_succ])
  generalize w10.alloc (.cells #[.slice A10 64 c10, .slice A' n' c'] 22) = w11 at hP hK11 hR11 hcf11 hz11 ⊢
  clear hF10 hb10 hR9 hR10 hl10 hR9' hcf9 hK9 hRo9 hcf10 hK10
  obtain ⟨T1, hT1⟩ : ∃ T, xorB own 54 ++ l = T := ⟨_, rfl⟩
  have hT1l : T1.length = 64 + n' := by rw [← hT1, List.length_append, xorB_len, holn, hn]
  have hT1b : Bys T1 := by rw [← hT1]; exact (xorB_B _ _).append hb
  refine Lx.call 10 rfl (by kernel_rfl) (by kernel_rfl) (by kernel_rfl) (fun _ => (cat_any w11 _ 2 (w10.heap.size + 1) 2 [xorB own 54, l] T1 (by simp [hT1]) hP rfl (by omega) (by omega) (by omega) (by omega)).mono ?_)
  rintro e w12 ⟨A12, c12, rfl, hF12, hb12⟩
  refine ⟨_, rfl, cell_bel hcf11 hb12 (by omega), ?_⟩
  (try simp only [Act.put, List.getElem_toArray, List.getElem_cons_succ, List.getElem_cons_zero, List.setIfInBounds_toArray, List.set_cons_zero, List.set_cons_succ])
  have hK12 := bnx hK11 hb12 (by omega)
  have hs12 := hb12.size
  have hcf12 := cell_bel hcf11 hb12 (by omega)
  have hR12 := hR11.bel hb12
  have hc12 := hF12.cap
  rw [hT1l] at hc12 ⊢
  refine Lx.call 11 rfl (by kernel_rfl) (by kernel_rfl) (by kernel_rfl) (fun _ => (one_0 T1 A12 (64 + n') c12 w12.heap.size w12 hF12.rd (Nat.le_refl _) hT1l (by omega) hc12 hT1b (hT.below hK12 (Nat.le_refl _))).mono ?_)
  rintro e w13 ⟨A13, c13, rfl, hF13, hb13⟩
  refine ⟨_, rfl, cell_bel hcf12 hb13 (by omega), ?_⟩
  (try simp only [Act.put, List.getElem_toArray, List.getElem_cons_succ, List.getElem_cons_zero, List.setIfInBounds_toArray, List.set_cons_zero, List.set_cons_succ])
  have hK13 := bnx hK12 hb13 (by omega)
  have hs13 := hb13.size
  have hcf13 := cell_bel hcf12 hb13 (by omega)
  have hR13 := hR12.bel hb13
  obtain ⟨m1, hm1⟩ : ∃ m, sumK 0 T1 = m := ⟨_, rfl⟩
  have hm1l : m1.length = 32 := by rw [← hm1]; exact sumK_len 0 T1
  have hm1b : Bys m1 := by rw [← hm1]; exact sumK_B 0 T1
  rw [hm1] at hF13
  have hc13 : 32 ≤ c13 := by have := hF13.cap; rw [hm1l] at this; exact this
  have hP2 := parts2w (w := w13) (B := w13.heap.size) (T := 22) (Nat.le_refl _) (hR13.partw (n := 64) (c := c9) (by rw [xorB_len, holn]) hc9) (hF13.rd.partw (n := 32) (c := c13) hm1l hc13)
  have hK14 := bal hK13 (by omega) (.cells #[.slice A9 64 c9, .slice A13 32 c13] 22)
  have hcf14 := cell_al hcf13 (by omega) (.cells #[.slice A9 64 c9, .slice A13 32 c13] 22)
  have hz14 : (w13.alloc (.cells #[.slice A9 64 c9, .slice A13 32 c13] 22)).heap.size = w13.heap.size + 1 := by simp
  refine Lx.made (w' := w13.alloc (.cells #[.slice A9 64 c9, .slice A13 32 c13] 22)) 12 (.slice (some ⟨w13.heap.size, 0, none⟩) 2 2) rfl (by kernel_rfl) (by kernel_rfl) (by kernel_rfl) (fun _ => hcf14) ?_
  (try simp only [Act.put, List.getElem_toArray, List.getElem_cons_succ, List.getElem_cons_zero, List.setIfInBounds_toArray, List.set_cons_zero, List.set_cons_succ])
  generalize w13.alloc (.cells #[.slice A9 64 c9, .slice A13 32 c13] 22) = w14 at hP2 hK14 hcf14 hz14 ⊢
  clear hF12 hb12 hF13 hb13 hR11 hR12 hR13 hcf11 hcf12 hcf13 hK11 hK12 hK13 hP
  obtain ⟨T2, hT2⟩ : ∃ T, xorB own 92 ++ m1 = T := ⟨_, rfl⟩
  have hT2l : T2.length = 64 + 32 := by rw [← hT2, List.length_append, xorB_len, holn, hm1l]
  have hT2b : Bys T2 := by rw [← hT2]; exact (xorB_B _ _).append hm1b
  refine Lx.call 13 rfl (by kernel_rfl) (by kernel_rfl) (by kernel_rfl) (fun _ => (cat_any w14 _ 2 (w13.heap.size + 1) 2 [xorB own 92, m1] T2 (by simp [hT2]) hP2 rfl (by omega) (by omega) (by omega) (by omega)).mono ?_)
  rintro e w15 ⟨A15, c15, rfl, hF15, hb15⟩
  refine ⟨_, rfl, cell_bel hcf14 hb15 (by omega), ?_⟩
  (try simp only [Act.put, List.getElem_toArray, List.getElem_cons_succ, List.getElem_cons_zero, List.setIfInBounds_toArray, List.set_cons_zero, List.set_cons_succ])
  have hK15 := bnx hK14 hb15 (by omega)
  have hs15 := hb15.size
  have hcf15 := cell_bel hcf14 hb15 (by omega)
  have hc15 := hF15.cap
  rw [hT2l] at hc15 ⊢
  refine Lx.call 14 rfl (by kernel_rfl) (by kernel_rfl) (by kernel_rfl) (fun _ => (one_0 T2 A15 (64 + 32) c15 w15.heap.size w15 hF15.rd (Nat.le_refl _) hT2l (by omega) hc15 hT2b (hT.below hK15 (Nat.le_refl _))).mono ?_)
  rintro e w16 ⟨A16, c16, rfl, hF16, hb16⟩
  refine ⟨_, rfl, cell_bel hcf15 hb16 (by omega), ?_⟩
  (try simp only [Act.put, List.getElem_toArray, List.getElem_cons_succ, List.getElem_cons_zero, List.setIfInBounds_toArray, List.set_cons_zero, List.set_cons_succ])
  have hK16 := bnx hK15 hb16 (by omega)
  have hF17 := hF16.low (b' := w.heap.size) (by omega)
  have hfin : sumK 0 T2 = macK 0 key l := by rw [hmk, hT1, hm1, hT2]
  rw [hfin] at hF17
  (refine Lx.val 15 ?_ rfl (by kernel_rfl) (by kernel_rfl) (by kernel_rfl) (fun _ _ _ h => h) (by kernel_rfl) ?_ ?_; rotate_left 1; focus (intro w hw; go_simp; with_reducible rfl)); (try simp only [Act.put, List.getElem_toArray, List.getElem_cons_succ, List.getElem_cons_zero, List.setIfInBounds_toArray, List.set_cons_zero, List.set_cons_succ])
  refine Lx.done (by kernel_rfl) ?_
  intro _
  clear hF15 hb15 hb16 hF16 hcf14 hcf15 hK14 hK15 hP2 hfin hmk hT1 hT2 hm1
  go_wp2_with fail
  go_ret
  exact ⟨_, _, rfl, hF17, hK16⟩
set_option maxRecDepth 100000 in
set_option maxHeartbeats 2000000 in
theorem macL_0 (key l : List Int) (A A' : Option Addr) (n c n' c' : Nat) (w : World) (hk : Rd w w.heap.size .u8 A key) (hkn : key.length = n) (hkl : n ≤ 1000000) (hkc : n ≤ c) (hkb : Bys key) (hr : Rd w w.heap.size .u8 A' l) (hn : l.length = n') (hl : n' ≤ 900000) (hc : n' ≤ c') (hb : Bys l) (hT : MTb w) (hlong : 64 < n) :
    Calls Tryd.prog 30 #[.int .i64 0, .slice A n c, .slice A' n' c'] w (OutP w (macK 0 key l) 32) := by
  have hlI : (64 : Int) < (n : Int) := by omega
  have hmx : (200000000 : Nat) ≤ maxLen := by decide
  go_enter Tryd.func30, Tryd.ntmps30
  go_wp2_with fail
  (with_reducible refine (of_0 w).mono ?_)
  rintro e w1 ⟨rfl, hb1⟩
  have h0 := Blk.new w1 65 kZ
  have hb2 := bal hb1 hb1.size (.cells kZ 65)
  have hs1 := hb1.size
  have hz : (w1.alloc (.cells kZ 65)).heap.size = w1.heap.size + 1 := by simp
  go_upto_region 2 with (refine wpList_store_row (o := ⟨none, _, _, _, _, _⟩) rfl 65 _ _ rfl _ kV0 rfl rfl _ kZ h0 (by kernel_rfl) rfl (by kernel_rfl) ?_)
  obtain ⟨b, hb_⟩ : ∃ b, w1.heap.size = b := ⟨_, rfl⟩
  have h3 := h0.setRow kV0
  have hb3 := (Kept.setRow (Kept.of_below (S := fun _ => False) hb2) w1.heap.size kV0 (.inl (by omega))).below
  have hz3 : ((w1.alloc (.cells kZ 65)).setRow w1.heap.size kV0).heap.size = w1.heap.size + 1 := by simp
  change Code.wp _ _ _ _ ((w1.alloc (.cells kZ 65)).setRow w1.heap.size kV0)
  rw [hb_] at h3 hb3 hz3 ⊢
  generalize (w1.alloc (.cells kZ 65)).setRow b kV0 = w3 at h3 hb3 hz3 ⊢
  have hcf := h3.cell 2 (.func (.func 16) #[] #[]) rfl
  have hcb := h3.cell 1 (.int .i64 64) rfl
  have HB : Hid (w.heap.size ≤ b ∧ b < w3.heap.size) := Lib.hid ⟨by omega, h3.lt⟩
  clear h0 hb1 hb2 hs1 hb_ hz hz3
  go_wp2_with fail
  have hsz := hb3.size
  (with_reducible refine (one_0 key A n c w.heap.size w3 (hk.below hb3) hsz hkn hkl hkc hkb (hT.below hb3 (Nat.le_refl _))).mono ?_)
  rintro e w4 ⟨A4, c4, rfl, hF4, hb4⟩
  have hK4 := bnx hb3 hb4 hsz
  have hcb4 := cell_bel hcb hb4 HB.out.2
  have hcf4 := cell_bel hcf hb4 HB.out.2
  have HB4 : Hid (w.heap.size ≤ b ∧ b < w4.heap.size) := Lib.hid ⟨HB.out.1, by have := HB.out.2; have := hb4.size; omega⟩
  have hky := hF4.rd
  have hkyl : (sumK 0 key).length = 32 := sumK_len 0 key
  have hkyb := sumK_B 0 key
  have hkK : keyK 0 key = sumK 0 key := by unfold keyK; rw [if_pos (by rw [hkn]; exact hlong)]
  obtain ⟨ky, hky_⟩ : ∃ q, sumK 0 key = q := ⟨_, rfl⟩
  rw [hky_] at hky hkyl hkyb hkK
  clear hcb hcf hF4 h3 hb3 hb4 hsz HB hky_ hk hkn hkl hkc hkb
  have hBl : 32 ≤ 64 := by omega
  have hO6 := Own.made (b := w4.heap.size) (e := 5) (k := .u8) w4 64 (Nat.le_refl _) (by omega)
  go_upto_region 7 with (refine wpList_make_nums rfl _ _ 22 rfl 5 .u8 1 Tryd.underlying22 inf_u8 .i64 .i64 64 64 64 64 rfl rfl rfl rfl (by decide) (by decide) (by decide) ?_; intro w5 hw5)
  obtain rfl := hw5.out
  have hA6 := Arr.new w4 5 .u8 (List.replicate 64 0)
  have hK6 := bal hK4 hK4.size (.cells (U .u8 (List.replicate 64 0)) 5)
  have hky6 := hky.al (.cells (U .u8 (List.replicate 64 0)) 5)
  have hcf6 := cell_al hcf4 HB4.out.2 (.cells (U .u8 (List.replicate 64 0)) 5)
  have hz6 : (w4.alloc (.cells (U .u8 (List.replicate 64 0)) 5)).heap.size = w4.heap.size + 1 := by simp
  change Code.wp _ _ _ _ (w4.alloc (.cells (U .u8 (List.replicate 64 0)) 5))
  obtain ⟨h, hh⟩ : ∃ h, w4.heap.size = h := ⟨_, rfl⟩
  rw [hh] at hA6 hz6 hky ⊢
  have hky7 := hky.alloc (Nat.le_of_eq hh.symm) (.cells (U .u8 (List.replicate 64 0)) 5)
  generalize w4.alloc (.cells (U .u8 (List.replicate 64 0)) 5) = w6 at hA6 hK6 hky6 hky7 hcf6 hz6 ⊢
  have HB6 : Hid (w.heap.size ≤ b ∧ b < h ∧ w.heap.size ≤ h) := Lib.hid ⟨HB4.out.1, by have := HB4.out.2; omega, by have := hK4.size; omega⟩
  clear hO6 hK4 hcf4 hcb4 HB4 hky hh
  go_upto_region 8 with (refine wpList_copy_zero (o := ⟨some 31, _, _, _, _, _⟩) rfl _ _ 22 5 rfl Tryd.underlying22 (by kernel_rfl) hA6 hky7 (by omega) hkyl rfl rfl ?_; intro w7 hA7 hk7)
  have hs7 := hk7.size
  have hK7 : Below w.heap.size w w7 := (Kept.trans (Kept.of_below (S := fun _ => False) hK6) (S' := fun _ => False) hk7 HB6.out.2.2 (fun _ _ h => h)).below
  have hcf7 : w7.cell? ⟨b, 2, none⟩ = some (.func (.func 16) #[] #[]) := (World.cell?_of_block (hk7.block b HB6.out.2.1 (fun h => h))).trans hcf6
  obtain ⟨own, hown⟩ : ∃ q, padL ky 64 = q := ⟨_, rfl⟩
  have holn : own.length = 64 := by rw [← hown]; exact padL_len _ _ (by omega)
  have hmk : macK 0 key l = sumK 0 (xorB own 92 ++ sumK 0 (xorB own 54 ++ l)) := by
    unfold macK; rw [hkK, show bkK 0 = 64 from rfl, hown]
  rw [hown] at hA7
  have hz7 : h < w7.heap.size ∧ b < w7.heap.size ∧ w.heap.size ≤ w7.heap.size := by have := HB6.out; omega
  have hRo := Rd.of_arr (B := w7.heap.size) hA7 hz7.1
  clear hA6 hK6 hky6 hky7 hcf6 hz6 hk7 hs7 hkK hkyb hown hA7
  refine Lx.enter (fun w' => w'.cell? ⟨b, 2, none⟩ = some (.func (.func 16) #[] #[])) 16 (by kernel_rfl) (by kernel_rfl) hcf7 ?_
  (refine Lx.val 0 ?_ rfl (by kernel_rfl) (by kernel_rfl) (by kernel_rfl) (fun _ _ _ h => h) (by kernel_rfl) ?_ ?_; rotate_left 1; focus (intro w hw; go_simp; with_reducible rfl)); (try simp only [Act.put, List.getElem_toArray, List.getElem_cons_succ, List.getElem_cons_zero, List.setIfInBounds_toArray, List.set_cons_zero, List.set_cons_succ])
  (refine Lx.val 1 ?_ rfl (by kernel_rfl) (by kernel_rfl) (by kernel_rfl) (fun _ _ _ h => h) (by kernel_rfl) ?_ ?_; rotate_left 1; focus (intro w hw; have hcell := hw; go_simp; with_reducible rfl)); (try simp only [Act.put, List.getElem_toArray, List.getElem_cons_succ, List.getElem_cons_zero, List.setIfInBounds_toArray, List.set_cons_zero, List.set_cons_succ])
  (refine Lx.val 2 ?_ rfl (by kernel_rfl) (by kernel_rfl) (by kernel_rfl) (fun _ _ _ h => h) (by kernel_rfl) ?_ ?_; rotate_left 1; focus (intro w hw; go_simp; with_reducible rfl)); (try simp only [Act.put, List.getElem_toArray, List.getElem_cons_succ, List.getElem_cons_zero, List.setIfInBounds_toArray, List.set_cons_zero, List.set_cons_succ])
  (refine Lx.val 4 ?_ rfl (by kernel_rfl) (by kernel_rfl) (by kernel_rfl) (fun _ _ _ h => h) (by kernel_rfl) ?_ ?_; rotate_left 1; focus (intro w hw; go_simp; with_reducible rfl)); (try simp only [Act.put, List.getElem_toArray, List.getElem_cons_succ, List.getElem_cons_zero, List.setIfInBounds_toArray, List.set_cons_zero, List.set_cons_succ])
  (refine Lx.val 5 ?_ rfl (by kernel_rfl) (by kernel_rfl) (by kernel_rfl) (fun _ _ _ h => h) (by kernel_rfl) ?_ ?_; rotate_left 1; focus (intro w hw; have hcell := hw; go_simp; with_reducible rfl)); (try simp only [Act.put, List.getElem_toArray, List.getElem_cons_succ, List.getElem_cons_zero, List.setIfInBounds_toArray, List.set_cons_zero, List.set_cons_succ])
  (refine Lx.val 6 ?_ rfl (by kernel_rfl) (by kernel_rfl) (by kernel_rfl) (fun _ _ _ h => h) (by kernel_rfl) ?_ ?_; rotate_left 1; focus (intro w hw; go_simp; with_reducible rfl)); (try simp only [Act.put, List.getElem_toArray, List.getElem_cons_succ, List.getElem_cons_zero, List.setIfInBounds_toArray, List.set_cons_zero, List.set_cons_succ])
  (refine Lx.val 8 ?_ rfl (by kernel_rfl) (by kernel_rfl) (by kernel_rfl) (fun _ _ _ h => h) (by kernel_rfl) ?_ ?_; rotate_left 1; focus (intro w hw; go_simp; with_reducible rfl)); (try simp only [Act.put, List.getElem_toArray, List.getElem_cons_succ, List.getElem_cons_zero, List.setIfInBounds_toArray, List.set_cons_zero, List.set_cons_succ])
  have hK8 := (Kept.of_below (S := fun _ => False) hK7).drew.below
  have hRo8 := hRo.drew
  have hz8 : h < w7.drew.heap.size ∧ b < w7.drew.heap.size ∧ w.heap.size ≤ w7.drew.heap.size := hz7
  have hcf8 : w7.drew.cell? ⟨b, 2, none⟩ = some (.func (.func 16) #[] #[]) := hcf7
  change Rd w7.drew w7.drew.heap.size _ _ _ at hRo8
  generalize w7.drew = w8 at hK8 hRo8 hz8 hcf8 ⊢
  clear hK7 hRo hz7 hcf7
  refine Lx.call 3 rfl (by kernel_rfl) (by kernel_rfl) (by kernel_rfl) (fun _ => (mixed_any own 92 (some ⟨h, 0, none⟩) 64 64 w8.heap.size w8 hRo8 (Nat.le_refl _) holn (by omega) (fun h => by cases h)).mono ?_)
  rintro e w9 ⟨A9, c9, rfl, hF9, hb9⟩
  refine ⟨_, rfl, cell_bel hcf8 hb9 hz8.2.1, ?_⟩
  (try simp only [Act.put, List.getElem_toArray, List.getElem_cons_succ, List.getElem_cons_zero, List.setIfInBounds_toArray, List.set_cons_zero, List.set_cons_succ])
  have hK9 := bnx hK8 hb9 hz8.2.2
  have hRo9 := hRo8.bel hb9
  have hs9 := hb9.size
  have hcf9 := cell_bel hcf8 hb9 hz8.2.1
  have hR9 := hF9.rd
  have hc9 : 64 ≤ c9 := by have := hF9.cap; rw [xorB_len, holn] at this; exact this
  clear hF9 hb9 hRo8 hK8 hcf8
  refine Lx.call 7 rfl (by kernel_rfl) (by kernel_rfl) (by kernel_rfl) (fun _ => (mixed_any own 54 (some ⟨h, 0, none⟩) 64 64 w9.heap.size w9 hRo9 (Nat.le_refl _) holn (by omega) (fun h => by cases h)).mono ?_)
  rintro e w10 ⟨A10, c10, rfl, hF10, hb10⟩
  refine ⟨_, rfl, cell_bel hcf9 hb10 (by omega), ?_⟩
  (try simp only [Act.put, List.getElem_toArray, List.getElem_cons_succ, List.getElem_cons_zero, List.setIfInBounds_toArray, List.set_cons_zero, List.set_cons_succ])
  have hK10 := bnx hK9 hb10 (by omega)
  have hs10 := hb10.size
  have hcf10 := cell_bel hcf9 hb10 (by omega)
  have hR9' := hR9.bel hb10
  have hR10 := hF10.rd
  have hc10 : 64 ≤ c10 := by have := hF10.cap; rw [xorB_len, holn] at this; exact this
  have hl10 := (hr.bel hK10)
  have hP := parts2w (w := w10) (B := w10.heap.size) (T := 22) (Nat.le_refl _) (hR10.partw (n := 64) (c := c10) (by rw [xorB_len, holn]) hc10) (hl10.partw (n := n') (c := c') hn hc)
  have hK11 := bal hK10 (by omega) (.cells #[.slice A10 64 c10, .slice A' n' c'] 22)
  have hR11 := hR9'.al (.cells #[.slice A10 64 c10, .slice A' n' c'] 22)
  have hcf11 := cell_al hcf10 (by omega) (.cells #[.slice A10 64 c10, .slice A' n' c'] 22)
  have hz11 : (w10.alloc (.cells #[.slice A10 64 c10, .slice A' n' c'] 22)).heap.size = w10.heap.size + 1 := by simp
  refine Lx.made (w' := w10.alloc (.cells #[.slice A10 64 c10, .slice A' n' c'] 22)) 9 (.slice (some ⟨w10.heap.size, 0, none⟩) 2 2) rfl (by kernel_rfl) (by kernel_rfl) (by kernel_rfl) (fun _ => hcf11) ?_
  (try simp only [Act.put, List.getElem_toArray, List.getElem_cons_succ, List.getElem_cons_zero, List.setIfInBounds_toArray, List.set_cons_zero, List.set_cons_succ])
  generalize w10.alloc (.cells #[.slice A10 64 c10, .slice A' n' c'] 22) = w11 at hP hK11 hR11 hcf11 hz11 ⊢
  clear hF10 hb10 hR9 hR10 hl10 hR9' hcf9 hK9 hRo9 hcf10 hK10
  obtain ⟨T1, hT1⟩ : ∃ T, xorB own 54 ++ l = T := ⟨_, rfl⟩
  have hT1l : T1.length = 64 + n' := by rw [← hT1, List.length_append, xorB_len, holn, hn]
  have hT1b : Bys T1 := by rw [← hT1]; exact (xorB_B _ _).append hb
  refine Lx.call 10 rfl (by kernel_rfl) (by kernel_rfl) (by kernel_rfl) (fun _ => (cat_any w11 _ 2 (w10.heap.size + 1) 2 [xorB own 54, l] T1 (by simp [hT1]) hP rfl (by omega) (by omega) (by omega) (by omega)).mono ?_)
  rintro e w12 ⟨A12, c12, rfl, hF12, hb12⟩
  refine ⟨_, rfl, cell_bel hcf11 hb12 (by omega), ?_⟩
  (try simp only [Act.put, List.getElem_toArray, List.getElem_cons_succ, List.getElem_cons_zero, List.setIfInBounds_toArray, List.set_cons_zero, List.set_cons_succ])
  have hK12 := bnx hK11 hb12 (by omega)
  have hs12 := hb12.size
  have hcf12 := cell_bel hcf11 hb12 (by omega)
  have hR12 := hR11.bel hb12
  have hc12 := hF12.cap
  rw [hT1l] at hc12 ⊢
  refine Lx.call 11 rfl (by kernel_rfl) (by kernel_rfl) (by kernel_rfl) (fun _ => (one_0 T1 A12 (64 + n') c12 w12.heap.size w12 hF12.rd (Nat.le_refl _) hT1l (by omega) hc12 hT1b (hT.below hK12 (Nat.le_refl _))).mono ?_)
  rintro e w13 ⟨A13, c13, rfl, hF13, hb13⟩
  refine ⟨_, rfl, cell_bel hcf12 hb13 (by omega), ?_⟩
  (try simp only [Act.put, List.getElem_toArray, List.getElem_cons_succ, List.getElem_cons_zero, List.setIfInBounds_toArray, List.set_cons_zero, List.set_cons_succ])
  have hK13 := bnx hK12 hb13 (by omega)
  have hs13 := hb13.size
  have hcf13 := cell_bel hcf12 hb13 (by omega)
  have hR13 := hR12.bel hb13
  obtain ⟨m1, hm1⟩ : ∃ m, sumK 0 T1 = m := ⟨_, rfl⟩
  have hm1l : m1.length = 32 := by rw [← hm1]; exact sumK_len 0 T1
  have hm1b : Bys m1 := by rw [← hm1]; exact sumK_B 0 T1
  rw [hm1] at hF13
  have hc13 : 32 ≤ c13 := by have := hF13.cap; rw [hm1l] at this; exact this
  have hP2 := parts2w (w := w13) (B := w13.heap.size) (T := 22) (Nat.le_refl _) (hR13.partw (n := 64) (c := c9) (by rw [xorB_len, holn]) hc9) (hF13.rd.partw (n := 32) (c := c13) hm1l hc13)
  have hK14 := bal hK13 (by omega) (.cells #[.slice A9 64 c9, .slice A13 32 c13] 22)
  have hcf14 := cell_al hcf13 (by omega) (.cells #[.slice A9 64 c9, .slice A13 32 c13] 22)
  have hz14 : (w13.alloc (.cells #[.slice A9 64 c9, .slice A13 32 c13] 22)).heap.size = w13.heap.size + 1 := by simp
  refine Lx.made (w' := w13.alloc (.cells #[.slice A9 64 c9, .slice A13 32 c13] 22)) 12 (.slice (some ⟨w13.heap.size, 0, none⟩) 2 2) rfl (by kernel_rfl) (by kernel_rfl) (by kernel_rfl) (fun _ => hcf14) ?_
  (try simp only [Act.put, List.getElem_toArray, List.getElem_cons_succ, List.getElem_cons_zero, List.setIfInBounds_toArray, List.set_cons_zero, List.set_cons_succ])
  generalize w13.alloc (.cells #[.slice A9 64 c9, .slice A13 32 c13] 22) = w14 at hP2 hK14 hcf14 hz14 ⊢
  clear hF12 hb12 hF13 hb13 hR11 hR12 hR13 hcf11 hcf12 hcf13 hK11 hK12 hK13 hP
  obtain ⟨T2, hT2⟩ : ∃ T, xorB own 92 ++ m1 = T := ⟨_, rfl⟩
  have hT2l : T2.length = 64 + 32 := by rw [← hT2, List.length_append, xorB_len, holn, hm1l]
  have hT2b : Bys T2 := by rw [← hT2]; exact (xorB_B _ _).append hm1b
  refine Lx.call 13 rfl (by kernel_rfl) (by kernel_rfl) (by kernel_rfl) (fun _ => (cat_any w14 _ 2 (w13.heap.size + 1) 2 [xorB own 92, m1] T2 (by simp [hT2]) hP2 rfl (by omega) (by omega) (by omega) (by omega)).mono ?_)
  rintro e w15 ⟨A15, c15, rfl, hF15, hb15⟩
  refine ⟨_, rfl, cell_bel hcf14 hb15 (by omega), ?_⟩
  (try simp only [Act.put, List.getElem_toArray, List.getElem_cons_succ, List.getElem_cons_zero, List.setIfInBounds_toArray, List.set_cons_zero, List.set_cons_succ])
  have hK15 := bnx hK14 hb15 (by omega)
  have hs15 := hb15.size
  have hcf15 := cell_bel hcf14 hb15 (by omega)
  have hc15 := hF15.cap
  rw [hT2l] at hc15 ⊢
  refine Lx.call 14 rfl (by kernel_rfl) (by kernel_rfl) (by kernel_rfl) (fun _ => (one_0 T2 A15 (64 + 32) c15 w15.heap.size w15 hF15.rd (Nat.le_refl _) hT2l (by omega) hc15 hT2b (hT.below hK15 (Nat.le_refl _))).mono ?_)
  rintro e w16 ⟨A16, c16, rfl, hF16, hb16⟩
  refine ⟨_, rfl, cell_bel hcf15 hb16 (by omega), ?_⟩
  (try simp only [Act.put, List.getElem_toArray, List.getElem_cons_succ, List.getElem_cons_zero, List.setIfInBounds_toArray, List.set_cons_zero, List.set_cons_succ])
  have hK16 := bnx hK15 hb16 (by omega)
  have hF17 := hF16.low (b' := w.heap.size) (by omega)
  have hfin : sumK 0 T2 = macK 0 key l := by rw [hmk, hT1, hm1, hT2]
  rw [hfin] at hF17
  (refine Lx.val 15 ?_ rfl (by kernel_rfl) (by kernel_rfl) (by kernel_rfl) (fun _ _ _ h => h) (by kernel_rfl) ?_ ?_; rotate_left 1; focus (intro w hw; go_simp; with_reducible rfl)); (try simp only [Act.put, List.getElem_toArray, List.getElem_cons_succ, List.getElem_cons_zero, List.setIfInBounds_toArray, List.set_cons_zero, List.set_cons_succ])
  refine Lx.done (by kernel_rfl) ?_
  intro _
  clear hF15 hb15 hb16 hF16 hcf14 hcf15 hK14 hK15 hP2 hfin hmk hT1 hT2 hm1
  go_wp2_with fail
  go_ret
  exact ⟨_, _, rfl, hF17, hK16⟩
/-! ### kind 1 -/
theorem one_1 (l : List Int) (A : Option Addr) (n c BB : Nat) (w : World) (hr : Rd w BB .u8 A l) (hBB : BB ≤ w.heap.size) (hn : l.length = n) (hl : n ≤ 1000000) (hc : n ≤ c) (hb : Bys l) (hT : MTb w) :
    Calls Tryd.prog 34 #[.slice A n c] w (OutP w (sumK 1 l) 64) := one5_any l A c BB n w hr hBB (by omega) hn hc hb hT.t5 hT.t5.lt.1 hT.t5.lt.2
set_option maxRecDepth 100000 in
theorem sizes_1 (w : World) : Calls Tryd.prog 26 #[.int .i64 1] w fun e w' => e = .returned (.tuple #[.int .i64 64, .int .i64 128]) ∧ Below w.heap.size w w' := by
  go_enter Tryd.func26, Tryd.ntmps26
  go_wp2_with fail
  (with_reducible refine (of_1 w).mono ?_)
  rintro e w1 ⟨rfl, hb1⟩
  have h0 := Blk.new w1 65 kZ
  have hb2 := bal hb1 hb1.size (.cells kZ 65)
  have hs1 := hb1.size
  go_upto_region 2 with (refine wpList_store_row (o := ⟨none, _, _, _, _, _⟩) rfl 65 _ _ rfl _ kV1 rfl rfl _ kZ h0 (by kernel_rfl) rfl (by kernel_rfl) ?_)
  obtain ⟨b, hb⟩ : ∃ b, w1.heap.size = b := ⟨_, rfl⟩
  have h3 := h0.setRow kV1
  have hb3 := (Kept.setRow (Kept.of_below (S := fun _ => False) hb2) w1.heap.size kV1 (.inl (by omega))).below
  change Code.wp _ _ _ _ ((w1.alloc (.cells kZ 65)).setRow w1.heap.size kV1)
  rw [hb] at h3 hb3 ⊢
  generalize (w1.alloc (.cells kZ 65)).setRow b kV1 = w3 at h3 hb3 ⊢
  refine Lx.enter (fun w' => w'.cell? ⟨b, 0, none⟩ = some (.int .i64 64) ∧ w'.cell? ⟨b, 1, none⟩ = some (.int .i64 128)) 6 (by kernel_rfl) (by kernel_rfl) ⟨h3.drew.cell 0 _ rfl, h3.drew.cell 1 _ rfl⟩ ?_
  (refine Lx.val 0 ?_ rfl (by kernel_rfl) (by kernel_rfl) (by kernel_rfl) (fun _ _ _ h => h) (by kernel_rfl) ?_ ?_; rotate_left 1; focus (intro w hw; go_simp; with_reducible rfl)); (try simp only [Act.put, List.getElem_toArray, List.getElem_cons_succ, List.getElem_cons_zero, List.setIfInBounds_toArray, List.set_cons_zero, List.set_cons_succ])
  (refine Lx.val 1 ?_ rfl (by kernel_rfl) (by kernel_rfl) (by kernel_rfl) (fun _ _ _ h => h) (by kernel_rfl) ?_ ?_; rotate_left 1; focus (intro w hw; have hcell := hw.1; go_simp; with_reducible rfl)); (try simp only [Act.put, List.getElem_toArray, List.getElem_cons_succ, List.getElem_cons_zero, List.setIfInBounds_toArray, List.set_cons_zero, List.set_cons_succ])
  (refine Lx.val 2 ?_ rfl (by kernel_rfl) (by kernel_rfl) (by kernel_rfl) (fun _ _ _ h => h) (by kernel_rfl) ?_ ?_; rotate_left 1; focus (intro w hw; go_simp; with_reducible rfl)); (try simp only [Act.put, List.getElem_toArray, List.getElem_cons_succ, List.getElem_cons_zero, List.setIfInBounds_toArray, List.set_cons_zero, List.set_cons_succ])
  (refine Lx.val 3 ?_ rfl (by kernel_rfl) (by kernel_rfl) (by kernel_rfl) (fun _ _ _ h => h) (by kernel_rfl) ?_ ?_; rotate_left 1; focus (intro w hw; have hcell := hw.2; go_simp; with_reducible rfl)); (try simp only [Act.put, List.getElem_toArray, List.getElem_cons_succ, List.getElem_cons_zero, List.setIfInBounds_toArray, List.set_cons_zero, List.set_cons_succ])
  (refine Lx.val 4 ?_ rfl (by kernel_rfl) (by kernel_rfl) (by kernel_rfl) (fun _ _ _ h => h) (by kernel_rfl) ?_ ?_; rotate_left 1; focus (intro w hw; go_simp; with_reducible rfl)); (try simp only [Act.put, List.getElem_toArray, List.getElem_cons_succ, List.getElem_cons_zero, List.setIfInBounds_toArray, List.set_cons_zero, List.set_cons_succ])
  (refine Lx.val 5 ?_ rfl (by kernel_rfl) (by kernel_rfl) (by kernel_rfl) (fun _ _ _ h => h) (by kernel_rfl) ?_ ?_; rotate_left 1; focus (intro w hw; go_simp; with_reducible rfl)); (try simp only [Act.put, List.getElem_toArray, List.getElem_cons_succ, List.getElem_cons_zero, List.setIfInBounds_toArray, List.set_cons_zero, List.set_cons_succ])
  refine Lx.done (by kernel_rfl) ?_
  intro _
  have hb4 := (Kept.of_below (S := fun _ => False) hb3).drew.below
  generalize w3.drew = w4 at hb4 ⊢
  clear h0 hb hb1 hb2 hs1
  go_wp2_with fail
  go_ret2
  exact ⟨rfl, hb4⟩
set_option maxRecDepth 100000 in
set_option maxHeartbeats 1000000 in
theorem sums_1 (l : List Int) (A : Option Addr) (n c : Nat) (w : World) (hr : Rd w w.heap.size .u8 A l) (hn : l.length = n) (hl : n ≤ 1000000) (hc : n ≤ c) (hb : Bys l) (hT : MTb w) :
    Calls Tryd.prog 28 #[.int .i64 1, .slice A n c] w (OutP w (sumK 1 l) 64) := by
  go_enter Tryd.func28, Tryd.ntmps28
  go_wp2_with fail
  (with_reducible refine (of_1 w).mono ?_)
  rintro e w1 ⟨rfl, hb1⟩
  have h0 := Blk.new w1 65 kZ
  have hb2 := bal hb1 hb1.size (.cells kZ 65)
  have hs1 := hb1.size
  go_upto_region 2 with (refine wpList_store_row (o := ⟨none, _, _, _, _, _⟩) rfl 65 _ _ rfl _ kV1 rfl rfl _ kZ h0 (by kernel_rfl) rfl (by kernel_rfl) ?_)
  obtain ⟨b, hb_⟩ : ∃ b, w1.heap.size = b := ⟨_, rfl⟩
  have h3 := h0.setRow kV1
  have hb3 := (Kept.setRow (Kept.of_below (S := fun _ => False) hb2) w1.heap.size kV1 (.inl (by omega))).below
  change Code.wp _ _ _ _ ((w1.alloc (.cells kZ 65)).setRow w1.heap.size kV1)
  rw [hb_] at h3 hb3 ⊢
  generalize (w1.alloc (.cells kZ 65)).setRow b kV1 = w3 at h3 hb3 ⊢
  have hcf := h3.cell 2 (.func (.func 34) #[] #[]) rfl
  have HS := Lib.hid hb3.size
  clear h0 hb1 hb2 hs1 hb_
  go_wp2_with fail
  (with_reducible refine (one_1 l A n c w.heap.size w3 (hr.below hb3) HS.out hn hl hc hb (hT.below hb3 (Nat.le_refl _))).mono ?_)
  rintro e w4 ⟨A4, c4, rfl, hF4, hb4⟩
  have hK4 := bnx hb3 hb4 HS.out
  have hF5 := hF4.low (b' := w.heap.size) HS.out
  clear hb3 hb4 hF4 hcf h3
  go_wp2_with fail
  go_ret
  exact ⟨_, _, rfl, hF5, hK4⟩
set_option maxRecDepth 100000 in
set_option maxHeartbeats 2000000 in
theorem macS_1 (key l : List Int) (A A' : Option Addr) (n c n' c' : Nat) (w : World) (hk : Rd w w.heap.size .u8 A key) (hkn : key.length = n) (hkl : n ≤ 1000000) (hkc : n ≤ c) (hkb : Bys key) (hr : Rd w w.heap.size .u8 A' l) (hn : l.length = n') (hl : n' ≤ 900000) (hc : n' ≤ c') (hb : Bys l) (hT : MTb w) (hlong : ¬ 128 < n) :
    Calls Tryd.prog 30 #[.int .i64 1, .slice A n c, .slice A' n' c'] w (OutP w (macK 1 key l) 64) := by
  have hlI : ¬ (128 : Int) < (n : Int) := by omega
  have hmx : (200000000 : Nat) ≤ maxLen := by decide
  go_enter Tryd.func30, Tryd.ntmps30
  go_wp2_with fail
  (with_reducible refine (of_1 w).mono ?_)
  rintro e w1 ⟨rfl, hb1⟩
  have h0 := Blk.new w1 65 kZ
  have hb2 := bal hb1 hb1.size (.cells kZ 65)
  have hs1 := hb1.size
  have hz : (w1.alloc (.cells kZ 65)).heap.size = w1.heap.size + 1 := by simp
  go_upto_region 2 with (refine wpList_store_row (o := ⟨none, _, _, _, _, _⟩) rfl 65 _ _ rfl _ kV1 rfl rfl _ kZ h0 (by kernel_rfl) rfl (by kernel_rfl) ?_)
  obtain ⟨b, hb_⟩ : ∃ b, w1.heap.size = b := ⟨_, rfl⟩
  have h3 := h0.setRow kV1
  have hb3 := (Kept.setRow (Kept.of_below (S := fun _ => False) hb2) w1.heap.size kV1 (.inl (by omega))).below
  have hz3 : ((w1.alloc (.cells kZ 65)).setRow w1.heap.size kV1).heap.size = w1.heap.size + 1 := by simp
  change Code.wp _ _ _ _ ((w1.alloc (.cells kZ 65)).setRow w1.heap.size kV1)
  rw [hb_] at h3 hb3 hz3 ⊢
  generalize (w1.alloc (.cells kZ 65)).setRow b kV1 = w3 at h3 hb3 hz3 ⊢
  have hcf := h3.cell 2 (.func (.func 34) #[] #[]) rfl
  have hcb := h3.cell 1 (.int .i64 128) rfl
  have HB : Hid (w.heap.size ≤ b ∧ b < w3.heap.size) := Lib.hid ⟨by omega, h3.lt⟩
  clear h0 hb1 hb2 hs1 hb_ hz hz3
  have hky := hk.bel hb3
  have hkK : keyK 1 key = key := by unfold keyK; rw [if_neg (by rw [hkn]; exact hlong)]
  have hkyl := hkn
  have hkyb := hkb
  clear h3 hk hkn hkb
  have hBl : n ≤ 128 := by omega
  have hO6 := Own.made (b := w3.heap.size) (e := 5) (k := .u8) w3 128 (Nat.le_refl _) (by omega)
  go_upto_region 7 with (refine wpList_make_nums rfl _ _ 22 rfl 5 .u8 1 Tryd.underlying22 inf_u8 .i64 .i64 128 128 128 128 rfl rfl rfl rfl (by decide) (by decide) (by decide) ?_; intro w5 hw5)
  obtain rfl := hw5.out
  have hA6 := Arr.new w3 5 .u8 (List.replicate 128 0)
  have hK6 := bal hb3 hb3.size (.cells (U .u8 (List.replicate 128 0)) 5)
  have hky6 := hky.al (.cells (U .u8 (List.replicate 128 0)) 5)
  have hcf6 := cell_al hcf HB.out.2 (.cells (U .u8 (List.replicate 128 0)) 5)
  have hz6 : (w3.alloc (.cells (U .u8 (List.replicate 128 0)) 5)).heap.size = w3.heap.size + 1 := by simp
  change Code.wp _ _ _ _ (w3.alloc (.cells (U .u8 (List.replicate 128 0)) 5))
  obtain ⟨h, hh⟩ : ∃ h, w3.heap.size = h := ⟨_, rfl⟩
  rw [hh] at hA6 hz6 hky ⊢
  have hky7 := hky.alloc (Nat.le_of_eq hh.symm) (.cells (U .u8 (List.replicate 128 0)) 5)
  generalize w3.alloc (.cells (U .u8 (List.replicate 128 0)) 5) = w6 at hA6 hK6 hky6 hky7 hcf6 hz6 ⊢
  have HB6 : Hid (w.heap.size ≤ b ∧ b < h ∧ w.heap.size ≤ h) := Lib.hid ⟨HB.out.1, by have := HB.out.2; omega, by have := hb3.size; omega⟩
  clear hO6 hb3 hcf hcb HB hky hh
  go_upto_region 8 with (refine wpList_copy_zero (o := ⟨some 31, _, _, _, _, _⟩) rfl _ _ 22 5 rfl Tryd.underlying22 (by kernel_rfl) hA6 hky7 (by omega) hkyl rfl rfl ?_; intro w7 hA7 hk7)
  have hs7 := hk7.size
  have hK7 : Below w.heap.size w w7 := (Kept.trans (Kept.of_below (S := fun _ => False) hK6) (S' := fun _ => False) hk7 HB6.out.2.2 (fun _ _ h => h)).below
  have hcf7 : w7.cell? ⟨b, 2, none⟩ = some (.func (.func 34) #[] #[]) := (World.cell?_of_block (hk7.block b HB6.out.2.1 (fun h => h))).trans hcf6
  obtain ⟨own, hown⟩ : ∃ q, padL key 128 = q := ⟨_, rfl⟩
  have holn : own.length = 128 := by rw [← hown]; exact padL_len _ _ (by omega)
  have hmk : macK 1 key l = sumK 1 (xorB own 92 ++ sumK 1 (xorB own 54 ++ l)) := by
    unfold macK; rw [hkK, show bkK 1 = 128 from rfl, hown]
  rw [hown] at hA7
  have hz7 : h < w7.heap.size ∧ b < w7.heap.size ∧ w.heap.size ≤ w7.heap.size := by have := HB6.out; omega
  have hRo := Rd.of_arr (B := w7.heap.size) hA7 hz7.1
  clear hA6 hK6 hky6 hky7 hcf6 hz6 hk7 hs7 hkK hkyb hown hA7
  refine Lx.enter (fun w' => w'.cell? ⟨b, 2, none⟩ = some (.func (.func 34) #[] #[])) 16 (by kernel_rfl) (by kernel_rfl) hcf7 ?_
  (refine Lx.val 0 ?_ rfl (by kernel_rfl) (by kernel_rfl) (by kernel_rfl) (fun _ _ _ h => h) (by kernel_rfl) ?_ ?_; rotate_left 1; focus (intro w hw; go_simp; with_reducible rfl)); (try simp only [Act.put, List.getElem_toArray, List.getElem_cons_succ, List.getElem_cons_zero, List.setIfInBounds_toArray, List.set_cons_zero, List.set_cons_succ])
  (refine Lx.val 1 ?_ rfl (by kernel_rfl) (by kernel_rfl) (by kernel_rfl) (fun _ _ _ h => h) (by kernel_rfl) ?_ ?_; rotate_left 1; focus (intro w hw; have hcell := hw; go_simp; with_reducible rfl)); (try simp only [Act.put, List.getElem_toArray, List.getElem_cons_succ, List.getElem_cons_zero, List.setIfInBounds_toArray, List.set_cons_zero, List.set_cons_succ])
  (refine Lx.val 2 ?_ rfl (by kernel_rfl) (by kernel_rfl) (by kernel_rfl) (fun _ _ _ h => h) (by kernel_rfl) ?_ ?_; rotate_left 1; focus (intro w hw; go_simp; with_reducible rfl)); (try simp only [Act.put, List.getElem_toArray, List.getElem_cons_succ, List.getElem_cons_zero, List.setIfInBounds_toArray, List.set_cons_zero, List.set_cons_succ])
  (refine Lx.val 4 ?_ rfl (by kernel_rfl) (by kernel_rfl) (by kernel_rfl) (fun _ _ _ h => h) (by kernel_rfl) ?_ ?_; rotate_left 1; focus (intro w hw; go_simp; with_reducible rfl)); (try simp only [Act.put, List.getElem_toArray, List.getElem_cons_succ, List.getElem_cons_zero, List.setIfInBounds_toArray, List.set_cons_zero, List.set_cons_succ])
  (refine Lx.val 5 ?_ rfl (by kernel_rfl) (by kernel_rfl) (by kernel_rfl) (fun _ _ _ h => h) (by kernel_rfl) ?_ ?_; rotate_left 1; focus (intro w hw; have hcell := hw; go_simp; with_reducible rfl)); (try simp only [Act.put, List.getElem_toArray, List.getElem_cons_succ, List.getElem_cons_zero, List.setIfInBounds_toArray, List.set_cons_zero, List.set_cons_succ])
  (refine Lx.val 6 ?_ rfl (by kernel_rfl) (by kernel_rfl) (by kernel_rfl) (fun _ _ _ h => h) (by kernel_rfl) ?_ ?_; rotate_left 1; focus (intro w hw; go_simp; with_reducible rfl)); (try simp only [Act.put, List.getElem_toArray, List.getElem_cons_succ, List.getElem_cons_zero, List.setIfInBounds_toArray, List.set_cons_zero, List.set_cons_succ])
  (refine Lx.val 8 ?_ rfl (by kernel_rfl) (by kernel_rfl) (by kernel_rfl) (fun _ _ _ h => h) (by kernel_rfl) ?_ ?_; rotate_left 1; focus (intro w hw; go_simp; with_reducible rfl)); (try simp only [Act.put, List.getElem_toArray, List.getElem_cons_succ, List.getElem_cons_zero, List.setIfInBounds_toArray, List.set_cons_zero, List.set_cons_succ])
  have hK8 := (Kept.of_below (S := fun _ => False) hK7).drew.below
  have hRo8 := hRo.drew
  have hz8 : h < w7.drew.heap.size ∧ b < w7.drew.heap.size ∧ w.heap.size ≤ w7.drew.heap.size := hz7
  have hcf8 : w7.drew.cell? ⟨b, 2, none⟩ = some (.func (.func 34) #[] #[]) := hcf7
  change Rd w7.drew w7.drew.heap.size _ _ _ at hRo8
  generalize w7.drew = w8 at hK8 hRo8 hz8 hcf8 ⊢
  clear hK7 hRo hz7 hcf7
  refine Lx.call 3 rfl (by kernel_rfl) (by kernel_rfl) (by kernel_rfl) (fun _ => (mixed_any own 92 (some ⟨h, 0, none⟩) 128 128 w8.heap.size w8 hRo8 (Nat.le_refl _) holn (by omega) (fun h => by cases h)).mono ?_)
  rintro e w9 ⟨A9, c9, rfl, hF9, hb9⟩
  refine ⟨_, rfl, cell_bel hcf8 hb9 hz8.2.1, ?_⟩
  (try simp only [Act.put, List.getElem_toArray, List.getElem_cons_succ, List.getElem_cons_zero, List.setIfInBounds_toArray, List.set_cons_zero, List.set_cons_succ])
  have hK9 := bnx hK8 hb9 hz8.2.2
  have hRo9 := hRo8.bel hb9
  have hs9 := hb9.size
  have hcf9 := cell_bel hcf8 hb9 hz8.2.1
  have hR9 := hF9.rd
  have hc9 : 128 ≤ c9 := by have := hF9.cap; rw [xorB_len, holn] at this; exact this
  clear hF9 hb9 hRo8 hK8 hcf8
  refine Lx.call 7 rfl (by kernel_rfl) (by kernel_rfl) (by kernel_rfl) (fun _ => (mixed_any own 54 (some ⟨h, 0, none⟩) 128 128 w9.heap.size w9 hRo9 (Nat.le_refl _) holn (by omega) (fun h => by cases h)).mono ?_)
  rintro e w10 ⟨A10, c10, rfl, hF10, hb10⟩
  refine ⟨_, rfl, cell_bel hcf9 hb10 (by omega), ?_⟩
  (try simp only [Act.put, List.getElem_toArray, List.getElem_cons_succ, List.getElem_cons_zero, List.setIfInBounds_toArray, List.set_cons_zero, List.set_cons_succ])
  have hK10 := bnx hK9 hb10 (by omega)
  have hs10 := hb10.size
  have hcf10 := cell_bel hcf9 hb10 (by omega)
  have hR9' := hR9.bel hb10
  have hR10 := hF10.rd
  have hc10 : 128 ≤ c10 := by have := hF10.cap; rw [xorB_len, holn] at this; exact this
  have hl10 := (hr.bel hK10)
  have hP := parts2w (w := w10) (B := w10.heap.size) (T := 22) (Nat.le_refl _) (hR10.partw (n := 128) (c := c10) (by rw [xorB_len, holn]) hc10) (hl10.partw (n := n') (c := c') hn hc)
  have hK11 := bal hK10 (by omega) (.cells #[.slice A10 128 c10, .slice A' n' c'] 22)
  have hR11 := hR9'.al (.cells #[.slice A10 128 c10, .slice A' n' c'] 22)
  have hcf11 := cell_al hcf10 (by omega) (.cells #[.slice A10 128 c10, .slice A' n' c'] 22)
  have hz11 : (w10.alloc (.cells #[.slice A10 128 c10, .slice A' n' c'] 22)).heap.size = w10.heap.size + 1 := by simp
  refine Lx.made (w' := w10.alloc (.cells #[.slice A10 128 c10, .slice A' n' c'] 22)) 9 (.slice (some ⟨w10.heap.size, 0, none⟩) 2 2) rfl (by kernel_rfl) (by kernel_rfl) (by kernel_rfl) (fun _ => hcf11) ?_
  (try simp only [Act.put, List.getElem_toArray, List.getElem_cons_succ, List.getElem_cons_zero, List.setIfInBounds_toArray, List.set_cons_zero, List.set_cons_succ])
  generalize w10.alloc (.cells #[.slice A10 128 c10, .slice A' n' c'] 22) = w11 at hP hK11 hR11 hcf11 hz11 ⊢
  clear hF10 hb10 hR9 hR10 hl10 hR9' hcf9 hK9 hRo9 hcf10 hK10
  obtain ⟨T1, hT1⟩ : ∃ T, xorB own 54 ++ l = T := ⟨_, rfl⟩
  have hT1l : T1.length = 128 + n' := by rw [← hT1, List.length_append, xorB_len, holn, hn]
  have hT1b : Bys T1 := by rw [← hT1]; exact (xorB_B _ _).append hb
  refine Lx.call 10 rfl (by kernel_rfl) (by kernel_rfl) (by kernel_rfl) (fun _ => (cat_any w11 _ 2 (w10.heap.size + 1) 2 [xorB own 54, l] T1 (by simp [hT1]) hP rfl (by omega) (by omega) (by omega) (by omega)).mono ?_)
  rintro e w12 ⟨A12, c12, rfl, hF12, hb12⟩
  refine ⟨_, rfl, cell_bel hcf11 hb12 (by omega), ?_⟩
  (try simp only [Act.put, List.getElem_toArray, List.getElem_cons_succ, List.getElem_cons_zero, List.setIfInBounds_toArray, List.set_cons_zero, List.set_cons_succ])
  have hK12 := bnx hK11 hb12 (by omega)
  have hs12 := hb12.size
  have hcf12 := cell_bel hcf11 hb12 (by omega)
  have hR12 := hR11.bel hb12
  have hc12 := hF12.cap
  rw [hT1l] at hc12 ⊢
  refine Lx.call 11 rfl (by kernel_rfl) (by kernel_rfl) (by kernel_rfl) (fun _ => (one_1 T1 A12 (128 + n') c12 w12.heap.size w12 hF12.rd (Nat.le_refl _) hT1l (by omega) hc12 hT1b (hT.below hK12 (Nat.le_refl _))).mono ?_)
  rintro e w13 ⟨A13, c13, rfl, hF13, hb13⟩
  refine ⟨_, rfl, cell_bel hcf12 hb13 (by omega), ?_⟩
  (try simp only [Act.put, List.getElem_toArray, List.getElem_cons_succ, List.getElem_cons_zero, List.setIfInBounds_toArray, List.set_cons_zero, List.set_cons_succ])
  have hK13 := bnx hK12 hb13 (by omega)
  have hs13 := hb13.size
  have hcf13 := cell_bel hcf12 hb13 (by omega)
  have hR13 := hR12.bel hb13
  obtain ⟨m1, hm1⟩ : ∃ m, sumK 1 T1 = m := ⟨_, rfl⟩
  have hm1l : m1.length = 64 := by rw [← hm1]; exact sumK_len 1 T1
  have hm1b : Bys m1 := by rw [← hm1]; exact sumK_B 1 T1
  rw [hm1] at hF13
  have hc13 : 64 ≤ c13 := by have := hF13.cap; rw [hm1l] at this; exact this
  have hP2 := parts2w (w := w13) (B := w13.heap.size) (T := 22) (Nat.le_refl _) (hR13.partw (n := 128) (c := c9) (by rw [xorB_len, holn]) hc9) (hF13.rd.partw (n := 64) (c := c13) hm1l hc13)
  have hK14 := bal hK13 (by omega) (.cells #[.slice A9 128 c9, .slice A13 64 c13] 22)
  have hcf14 := cell_al hcf13 (by omega) (.cells #[.slice A9 128 c9, .slice A13 64 c13] 22)
  have hz14 : (w13.alloc (.cells #[.slice A9 128 c9, .slice A13 64 c13] 22)).heap.size = w13.heap.size + 1 := by simp
  refine Lx.made (w' := w13.alloc (.cells #[.slice A9 128 c9, .slice A13 64 c13] 22)) 12 (.slice (some ⟨w13.heap.size, 0, none⟩) 2 2) rfl (by kernel_rfl) (by kernel_rfl) (by kernel_rfl) (fun _ => hcf14) ?_
  (try simp only [Act.put, List.getElem_toArray, List.getElem_cons_succ, List.getElem_cons_zero, List.setIfInBounds_toArray, List.set_cons_zero, List.set_cons_succ])
  generalize w13.alloc (.cells #[.slice A9 128 c9, .slice A13 64 c13] 22) = w14 at hP2 hK14 hcf14 hz14 ⊢
  clear hF12 hb12 hF13 hb13 hR11 hR12 hR13 hcf11 hcf12 hcf13 hK11 hK12 hK13 hP
  obtain ⟨T2, hT2⟩ : ∃ T, xorB own 92 ++ m1 = T := ⟨_, rfl⟩
  have hT2l : T2.length = 128 + 64 := by rw [← hT2, List.length_append, xorB_len, holn, hm1l]
  have hT2b : Bys T2 := by rw [← hT2]; exact (xorB_B _ _).append hm1b
  refine Lx.call 13 rfl (by kernel_rfl) (by kernel_rfl) (by kernel_rfl) (fun _ => (cat_any w14 _ 2 (w13.heap.size + 1) 2 [xorB own 92, m1] T2 (by simp [hT2]) hP2 rfl (by omega) (by omega) (by omega) (by omega)).mono ?_)
  rintro e w15 ⟨A15, c15, rfl, hF15, hb15⟩
  refine ⟨_, rfl, cell_bel hcf14 hb15 (by omega), ?_⟩
  (try simp only [Act.put, List.getElem_toArray, List.getElem_cons_succ, List.getElem_cons_zero, List.setIfInBounds_toArray, List.set_cons_zero, List.set_cons_succ])
  have hK15 := bnx hK14 hb15 (by omega)
  have hs15 := hb15.size
  have hcf15 := cell_bel hcf14 hb15 (by omega)
  have hc15 := hF15.cap
  rw [hT2l] at hc15 ⊢
  refine Lx.call 14 rfl (by kernel_rfl) (by kernel_rfl) (by kernel_rfl) (fun _ => (one_1 T2 A15 (128 + 64) c15 w15.heap.size w15 hF15.rd (Nat.le_refl _) hT2l (by omega) hc15 hT2b (hT.below hK15 (Nat.le_refl _))).mono ?_)
  rintro e w16 ⟨A16, c16, rfl, hF16, hb16⟩
  refine ⟨_, rfl, cell_bel hcf15 hb16 (by omega), ?_⟩
  (try simp only [Act.put, List.getElem_toArray, List.getElem_cons_succ, List.getElem_cons_zero, List.setIfInBounds_toArray, List.set_cons_zero, List.set_cons_succ])
  have hK16 := bnx hK15 hb16 (by omega)
  have hF17 := hF16.low (b' := w.heap.size) (by omega)
  have hfin : sumK 1 T2 = macK 1 key l := by rw [hmk, hT1, hm1, hT2]
  rw [hfin] at hF17
  (refine Lx.val 15 ?_ rfl (by kernel_rfl) (by kernel_rfl) (by kernel_rfl) (fun _ _ _ h => h) (by kernel_rfl) ?_ ?_; rotate_left 1; focus (intro w hw; go_simp; with_reducible rfl)); (try simp only [Act.put, List.getElem_toArray, List.getElem_cons_succ, List.getElem_cons_zero, List.setIfInBounds_toArray, List.set_cons_zero, List.set_cons_succ])
  refine Lx.done (by kernel_rfl) ?_
  intro _
  clear hF15 hb15 hb16 hF16 hcf14 hcf15 hK14 hK15 hP2 hfin hmk hT1 hT2 hm1
  go_wp2_with fail
  go_ret
  exact ⟨_, _, rfl, hF17, hK16⟩
set_option maxRecDepth 100000 in
set_option maxHeartbeats 2000000 in
theorem macL_1 (key l : List Int) (A A' : Option Addr) (n c n' c' : Nat) (w : World) (hk : Rd w w.heap.size .u8 A key) (hkn : key.length = n) (hkl : n ≤ 1000000) (hkc : n ≤ c) (hkb : Bys key) (hr : Rd w w.heap.size .u8 A' l) (hn : l.length = n') (hl : n' ≤ 900000) (hc : n' ≤ c') (hb : Bys l) (hT : MTb w) (hlong : 128 < n) :
    Calls Tryd.prog 30 #[.int .i64 1, .slice A n c, .slice A' n' c'] w (OutP w (macK 1 key l) 64) := by
  have hlI : (128 : Int) < (n : Int) := by omega
  have hmx : (200000000 : Nat) ≤ maxLen := by decide
  go_enter Tryd.func30, Tryd.ntmps30
  go_wp2_with fail
  (with_reducible refine (of_1 w).mono ?_)
  rintro e w1 ⟨rfl, hb1⟩
  have h0 := Blk.new w1 65 kZ
  have hb2 := bal hb1 hb1.size (.cells kZ 65)
  have hs1 := hb1.size
  have hz : (w1.alloc (.cells kZ 65)).heap.size = w1.heap.size + 1 := by simp
  go_upto_region 2 with (refine wpList_store_row (o := ⟨none, _, _, _, _, _⟩) rfl 65 _ _ rfl _ kV1 rfl rfl _ kZ h0 (by kernel_rfl) rfl (by kernel_rfl) ?_)
  obtain ⟨b, hb_⟩ : ∃ b, w1.heap.size = b := ⟨_, rfl⟩
  have h3 := h0.setRow kV1
  have hb3 := (Kept.setRow (Kept.of_below (S := fun _ => False) hb2) w1.heap.size kV1 (.inl (by omega))).below
  have hz3 : ((w1.alloc (.cells kZ 65)).setRow w1.heap.size kV1).heap.size = w1.heap.size + 1 := by simp
  change Code.wp _ _ _ _ ((w1.alloc (.cells kZ 65)).setRow w1.heap.size kV1)
  rw [hb_] at h3 hb3 hz3 ⊢
  generalize (w1.alloc (.cells kZ 65)).setRow b kV1 = w3 at h3 hb3 hz3 ⊢
  have hcf := h3.cell 2 (.func (.func 34) #[] #[]) rfl
  have hcb := h3.cell 1 (.int .i64 128) rfl
  have HB : Hid (w.heap.size ≤ b ∧ b < w3.heap.size) := Lib.hid ⟨by omega, h3.lt⟩
  clear h0 hb1 hb2 hs1 hb_ hz hz3
  go_wp2_with fail
  have hsz := hb3.size
  (with_reducible refine (one_1 key A n c w.heap.size w3 (hk.below hb3) hsz hkn hkl hkc hkb (hT.below hb3 (Nat.le_refl _))).mono ?_)
  rintro e w4 ⟨A4, c4, rfl, hF4, hb4⟩
  have hK4 := bnx hb3 hb4 hsz
  have hcb4 := cell_bel hcb hb4 HB.out.2
  have hcf4 := cell_bel hcf hb4 HB.out.2
  have HB4 : Hid (w.heap.size ≤ b ∧ b < w4.heap.size) := Lib.hid ⟨HB.out.1, by have := HB.out.2; have := hb4.size; omega⟩
  have hky := hF4.rd
  have hkyl : (sumK 1 key).length = 64 := sumK_len 1 key
  have hkyb := sumK_B 1 key
  have hkK : keyK 1 key = sumK 1 key := by unfold keyK; rw [if_pos (by rw [hkn]; exact hlong)]
  obtain ⟨ky, hky_⟩ : ∃ q, sumK 1 key = q := ⟨_, rfl⟩
  rw [hky_] at hky hkyl hkyb hkK
  clear hcb hcf hF4 h3 hb3 hb4 hsz HB hky_ hk hkn hkl hkc hkb
  have hBl : 64 ≤ 128 := by omega
  have hO6 := Own.made (b := w4.heap.size) (e := 5) (k := .u8) w4 128 (Nat.le_refl _) (by omega)
  go_upto_region 7 with (refine wpList_make_nums rfl _ _ 22 rfl 5 .u8 1 Tryd.underlying22 inf_u8 .i64 .i64 128 128 128 128 rfl rfl rfl rfl (by decide) (by decide) (by decide) ?_; intro w5 hw5)
  obtain rfl := hw5.out
  have hA6 := Arr.new w4 5 .u8 (List.replicate 128 0)
  have hK6 := bal hK4 hK4.size (.cells (U .u8 (List.replicate 128 0)) 5)
  have hky6 := hky.al (.cells (U .u8 (List.replicate 128 0)) 5)
  have hcf6 := cell_al hcf4 HB4.out.2 (.cells (U .u8 (List.replicate 128 0)) 5)
  have hz6 : (w4.alloc (.cells (U .u8 (List.replicate 128 0)) 5)).heap.size = w4.heap.size + 1 := by simp
  change Code.wp _ _ _ _ (w4.alloc (.cells (U .u8 (List.replicate 128 0)) 5))
  obtain ⟨h, hh⟩ : ∃ h, w4.heap.size = h := ⟨_, rfl⟩
  rw [hh] at hA6 hz6 hky ⊢
  have hky7 := hky.alloc (Nat.le_of_eq hh.symm) (.cells (U .u8 (List.replicate 128 0)) 5)
  generalize w4.alloc (.cells (U .u8 (List.replicate 128 0)) 5) = w6 at hA6 hK6 hky6 hky7 hcf6 hz6 ⊢
  have HB6 : Hid (w.heap.size ≤ b ∧ b < h ∧ w.heap.size ≤ h) := Lib.hid ⟨HB4.out.1, by have := HB4.out.2; omega, by have := hK4.size; omega⟩
  clear hO6 hK4 hcf4 hcb4 HB4 hky hh
  go_upto_region 8 with (refine wpList_copy_zero (o := ⟨some 31, _, _, _, _, _⟩) rfl _ _ 22 5 rfl Tryd.underlying22 (by kernel_rfl) hA6 hky7 (by omega) hkyl rfl rfl ?_; intro w7 hA7 hk7)
  have hs7 := hk7.size
  have hK7 : Below w.heap.size w w7 := (Kept.trans (Kept.of_below (S := fun _ => False) hK6) (S' := fun _ => False) hk7 HB6.out.2.2 (fun _ _ h => h)).below
  have hcf7 : w7.cell? ⟨b, 2, none⟩ = some (.func (.func 34) #[] #[]) := (World.cell?_of_block (hk7.block b HB6.out.2.1 (fun h => h))).trans hcf6
  obtain ⟨own, hown⟩ : ∃ q, padL ky 128 = q := ⟨_, rfl⟩
  have holn : own.length = 128 := by rw [← hown]; exact padL_len _ _ (by omega)
  have hmk : macK 1 key l = sumK 1 (xorB own 92 ++ sumK 1 (xorB own 54 ++ l)) := by
    unfold macK; rw [hkK, show bkK 1 = 128 from rfl, hown]
  rw [hown] at hA7
  have hz7 : h < w7.heap.size ∧ b < w7.heap.size ∧ w.heap.size ≤ w7.heap.size := by have := HB6.out; omega
  have hRo := Rd.of_arr (B := w7.heap.size) hA7 hz7.1
  clear hA6 hK6 hky6 hky7 hcf6 hz6 hk7 hs7 hkK hkyb hown hA7
  refine Lx.enter (fun w' => w'.cell? ⟨b, 2, none⟩ = some (.func (.func 34) #[] #[])) 16 (by kernel_rfl) (by kernel_rfl) hcf7 ?_
  (refine Lx.val 0 ?_ rfl (by kernel_rfl) (by kernel_rfl) (by kernel_rfl) (fun _ _ _ h => h) (by kernel_rfl) ?_ ?_; rotate_left 1; focus (intro w hw; go_simp; with_reducible rfl)); (try simp only [Act.put, List.getElem_toArray, List.getElem_cons_succ, List.getElem_cons_zero, List.setIfInBounds_toArray, List.set_cons_zero, List.set_cons_succ])
  (refine Lx.val 1 ?_ rfl (by kernel_rfl) (by kernel_rfl) (by kernel_rfl) (fun _ _ _ h => h) (by kernel_rfl) ?_ ?_; rotate_left 1; focus (intro w hw; have hcell := hw; go_simp; with_reducible rfl)); (try simp only [Act.put, List.getElem_toArray, List.getElem_cons_succ, List.getElem_cons_zero, List.setIfInBounds_toArray, List.set_cons_zero, List.set_cons_succ])
  (refine Lx.val 2 ?_ rfl (by kernel_rfl) (by kernel_rfl) (by kernel_rfl) (fun _ _ _ h => h) (by kernel_rfl) ?_ ?_; rotate_left 1; focus (intro w hw; go_simp; with_reducible rfl)); (try simp only [Act.put, List.getElem_toArray, List.getElem_cons_succ, List.getElem_cons_zero, List.setIfInBounds_toArray, List.set_cons_zero, List.set_cons_succ])
  (refine Lx.val 4 ?_ rfl (by kernel_rfl) (by kernel_rfl) (by kernel_rfl) (fun _ _ _ h => h) (by kernel_rfl) ?_ ?_; rotate_left 1; focus (intro w hw; go_simp; with_reducible rfl)); (try simp only [Act.put, List.getElem_toArray, List.getElem_cons_succ, List.getElem_cons_zero, List.setIfInBounds_toArray, List.set_cons_zero, List.set_cons_succ])
  (refine Lx.val 5 ?_ rfl (by kernel_rfl) (by kernel_rfl) (by kernel_rfl) (fun _ _ _ h => h) (by kernel_rfl) ?_ ?_; rotate_left 1; focus (intro w hw; have hcell := hw; go_simp; with_reducible rfl)); (try simp only [Act.put, List.getElem_toArray, List.getElem_cons_succ, List.getElem_cons_zero, List.setIfInBounds_toArray, List.set_cons_zero, List.set_cons_succ])
  (refine Lx.val 6 ?_ rfl (by kernel_rfl) (by kernel_rfl) (by kernel_rfl) (fun _ _ _ h => h) (by kernel_rfl) ?_ ?_; rotate_left 1; focus (intro w hw; go_simp; with_reducible rfl)); (try simp only [Act.put, List.getElem_toArray, List.getElem_cons_succ, List.getElem_cons_zero, List.setIfInBounds_toArray, List.set_cons_zero, List.set_cons_succ])
  (refine Lx.val 8 ?_ rfl (by kernel_rfl) (by kernel_rfl) (by kernel_rfl) (fun _ _ _ h => h) (by kernel_rfl) ?_ ?_; rotate_left 1; focus (intro w hw; go_simp; with_reducible rfl)); (try simp only [Act.put, List.getElem_toArray, List.getElem_cons_succ, List.getElem_cons_zero, List.setIfInBounds_toArray, List.set_cons_zero, List.set_cons_succ])
  have hK8 := (Kept.of_below (S := fun _ => False) hK7).drew.below
  have hRo8 := hRo.drew
  have hz8 : h < w7.drew.heap.size ∧ b < w7.drew.heap.size ∧ w.heap.size ≤ w7.drew.heap.size := hz7
  have hcf8 : w7.drew.cell? ⟨b, 2, none⟩ = some (.func (.func 34) #[] #[]) := hcf7
  change Rd w7.drew w7.drew.heap.size _ _ _ at hRo8
  generalize w7.drew = w8 at hK8 hRo8 hz8 hcf8 ⊢
  clear hK7 hRo hz7 hcf7
  refine Lx.call 3 rfl (by kernel_rfl) (by kernel_rfl) (by kernel_rfl) (fun _ => (mixed_any own 92 (some ⟨h, 0, none⟩) 128 128 w8.heap.size w8 hRo8 (Nat.le_refl _) holn (by omega) (fun h => by cases h)).mono ?_)
  rintro e w9 ⟨A9, c9, rfl, hF9, hb9⟩
  refine ⟨_, rfl, cell_bel hcf8 hb9 hz8.2.1, ?_⟩
  (try simp only [Act.put, List.getElem_toArray, List.getElem_cons_succ, List.getElem_cons_zero, List.setIfInBounds_toArray, List.set_cons_zero, List.set_cons_succ])
  have hK9 := bnx hK8 hb9 hz8.2.2
  have hRo9 := hRo8.bel hb9
  have hs9 := hb9.size
  have hcf9 := cell_bel hcf8 hb9 hz8.2.1
  have hR9 := hF9.rd
  have hc9 : 128 ≤ c9 := by have := hF9.cap; rw [xorB_len, holn] at this; exact this
  clear hF9 hb9 hRo8 hK8 hcf8
  refine Lx.call 7 rfl (by kernel_rfl) (by kernel_rfl) (by kernel_rfl) (fun _ => (mixed_any own 54 (some ⟨h, 0, none⟩) 128 128 w9.heap.size w9 hRo9 (Nat.le_refl _) holn (by omega) (fun h => by cases h)).mono ?_)
  rintro e w10 ⟨A10, c10, rfl, hF10, hb10⟩
  refine ⟨_, rfl, cell_bel hcf9 hb10 (by omega), ?_⟩
  (try simp only [Act.put, List.getElem_toArray, List.getElem_cons_succ, List.getElem_cons_zero, List.setIfInBounds_toArray, List.set_cons_zero, List.set_cons_succ])
  have hK10 := bnx hK9 hb10 (by omega)
  have hs10 := hb10.size
  have hcf10 := cell_bel hcf9 hb10 (by omega)
  have hR9' := hR9.bel hb10
  have hR10 := hF10.rd
  have hc10 : 128 ≤ c10 := by have := hF10.cap; rw [xorB_len, holn] at this; exact this
  have hl10 := (hr.bel hK10)
  have hP := parts2w (w := w10) (B := w10.heap.size) (T := 22) (Nat.le_refl _) (hR10.partw (n := 128) (c := c10) (by rw [xorB_len, holn]) hc10) (hl10.partw (n := n') (c := c') hn hc)
  have hK11 := bal hK10 (by omega) (.cells #[.slice A10 128 c10, .slice A' n' c'] 22)
  have hR11 := hR9'.al (.cells #[.slice A10 128 c10, .slice A' n' c'] 22)
  have hcf11 := cell_al hcf10 (by omega) (.cells #[.slice A10 128 c10, .slice A' n' c'] 22)
  have hz11 : (w10.alloc (.cells #[.slice A10 128 c10, .slice A' n' c'] 22)).heap.size = w10.heap.size + 1 := by simp
  refine Lx.made (w' := w10.alloc (.cells #[.slice A10 128 c10, .slice A' n' c'] 22)) 9 (.slice (some ⟨w10.heap.size, 0, none⟩) 2 2) rfl (by kernel_rfl) (by kernel_rfl) (by kernel_rfl) (fun _ => hcf11) ?_
  (try simp only [Act.put, List.getElem_toArray, List.getElem_cons_succ, List.getElem_cons_zero, List.setIfInBounds_toArray, List.set_cons_zero, List.set_cons_succ])
  generalize w10.alloc (.cells #[.slice A10 128 c10, .slice A' n' c'] 22) = w11 at hP hK11 hR11 hcf11 hz11 ⊢
  clear hF10 hb10 hR9 hR10 hl10 hR9' hcf9 hK9 hRo9 hcf10 hK10
  obtain ⟨T1, hT1⟩ : ∃ T, xorB own 54 ++ l = T := ⟨_, rfl⟩
  have hT1l : T1.length = 128 + n' := by rw [← hT1, List.length_append, xorB_len, holn, hn]
  have hT1b : Bys T1 := by rw [← hT1]; exact (xorB_B _ _).append hb
  refine Lx.call 10 rfl (by kernel_rfl) (by kernel_rfl) (by kernel_rfl) (fun _ => (cat_any w11 _ 2 (w10.heap.size + 1) 2 [xorB own 54, l] T1 (by simp [hT1]) hP rfl (by omega) (by omega) (by omega) (by omega)).mono ?_)
  rintro e w12 ⟨A12, c12, rfl, hF12, hb12⟩
  refine ⟨_, rfl, cell_bel hcf11 hb12 (by omega), ?_⟩
  (try simp only [Act.put, List.getElem_toArray, List.getElem_cons_succ, List.getElem_cons_zero, List.setIfInBounds_toArray, List.set_cons_zero, List.set_cons_succ])
  have hK12 := bnx hK11 hb12 (by omega)
  have hs12 := hb12.size
  have hcf12 := cell_bel hcf11 hb12 (by omega)
  have hR12 := hR11.bel hb12
  have hc12 := hF12.cap
  rw [hT1l] at hc12 ⊢
  refine Lx.call 11 rfl (by kernel_rfl) (by kernel_rfl) (by kernel_rfl) (fun _ => (one_1 T1 A12 (128 + n') c12 w12.heap.size w12 hF12.rd (Nat.le_refl _) hT1l (by omega) hc12 hT1b (hT.below hK12 (Nat.le_refl _))).mono ?_)
  rintro e w13 ⟨A13, c13, rfl, hF13, hb13⟩
  refine ⟨_, rfl, cell_bel hcf12 hb13 (by omega), ?_⟩
  (try simp only [Act.put, List.getElem_toArray, List.getElem_cons_succ, List.getElem_cons_zero, List.setIfInBounds_toArray, List.set_cons_zero, List.set_cons_succ])
  have hK13 := bnx hK12 hb13 (by omega)
  have hs13 := hb13.size
  have hcf13 := cell_bel hcf12 hb13 (by omega)
  have hR13 := hR12.bel hb13
  obtain ⟨m1, hm1⟩ : ∃ m, sumK 1 T1 = m := ⟨_, rfl⟩
  have hm1l : m1.length = 64 := by rw [← hm1]; exact sumK_len 1 T1
  have hm1b : Bys m1 := by rw [← hm1]; exact sumK_B 1 T1
  rw [hm1] at hF13
  have hc13 : 64 ≤ c13 := by have := hF13.cap; rw [hm1l] at this; exact this
  have hP2 := parts2w (w := w13) (B := w13.heap.size) (T := 22) (Nat.le_refl _) (hR13.partw (n := 128) (c := c9) (by rw [xorB_len, holn]) hc9) (hF13.rd.partw (n := 64) (c := c13) hm1l hc13)
  have hK14 := bal hK13 (by omega) (.cells #[.slice A9 128 c9, .slice A13 64 c13] 22)
  have hcf14 := cell_al hcf13 (by omega) (.cells #[.slice A9 128 c9, .slice A13 64 c13] 22)
  have hz14 : (w13.alloc (.cells #[.slice A9 128 c9, .slice A13 64 c13] 22)).heap.size = w13.heap.size + 1 := by simp
  refine Lx.made (w' := w13.alloc (.cells #[.slice A9 128 c9, .slice A13 64 c13] 22)) 12 (.slice (some ⟨w13.heap.size, 0, none⟩) 2 2) rfl (by kernel_rfl) (by kernel_rfl) (by kernel_rfl) (fun _ => hcf14) ?_
  (try simp only [Act.put, List.getElem_toArray, List.getElem_cons_succ, List.getElem_cons_zero, List.setIfInBounds_toArray, List.set_cons_zero, List.set_cons_succ])
  generalize w13.alloc (.cells #[.slice A9 128 c9, .slice A13 64 c13] 22) = w14 at hP2 hK14 hcf14 hz14 ⊢
  clear hF12 hb12 hF13 hb13 hR11 hR12 hR13 hcf11 hcf12 hcf13 hK11 hK12 hK13 hP
  obtain ⟨T2, hT2⟩ : ∃ T, xorB own 92 ++ m1 = T := ⟨_, rfl⟩
  have hT2l : T2.length = 128 + 64 := by rw [← hT2, List.length_append, xorB_len, holn, hm1l]
  have hT2b : Bys T2 := by rw [← hT2]; exact (xorB_B _ _).append hm1b
  refine Lx.call 13 rfl (by kernel_rfl) (by kernel_rfl) (by kernel_rfl) (fun _ => (cat_any w14 _ 2 (w13.heap.size + 1) 2 [xorB own 92, m1] T2 (by simp [hT2]) hP2 rfl (by omega) (by omega) (by omega) (by omega)).mono ?_)
  rintro e w15 ⟨A15, c15, rfl, hF15, hb15⟩
  refine ⟨_, rfl, cell_bel hcf14 hb15 (by omega), ?_⟩
  (try simp only [Act.put, List.getElem_toArray, List.getElem_cons_succ, List.getElem_cons_zero, List.setIfInBounds_toArray, List.set_cons_zero, List.set_cons_succ])
  have hK15 := bnx hK14 hb15 (by omega)
  have hs15 := hb15.size
  have hcf15 := cell_bel hcf14 hb15 (by omega)
  have hc15 := hF15.cap
  rw [hT2l] at hc15 ⊢
  refine Lx.call 14 rfl (by kernel_rfl) (by kernel_rfl) (by kernel_rfl) (fun _ => (one_1 T2 A15 (128 + 64) c15 w15.heap.size w15 hF15.rd (Nat.le_refl _) hT2l (by omega) hc15 hT2b (hT.below hK15 (Nat.le_refl _))).mono ?_)
  rintro e w16 ⟨A16, c16, rfl, hF16, hb16⟩
  refine ⟨_, rfl, cell_bel hcf15 hb16 (by omega), ?_⟩
  (try simp only [Act.put, List.getElem_toArray, List.getElem_cons_succ, List.getElem_cons_zero, List.setIfInBounds_toArray, List.set_cons_zero, List.set_cons_succ])
  have hK16 := bnx hK15 hb16 (by omega)
  have hF17 := hF16.low (b' := w.heap.size) (by omega)
  have hfin : sumK 1 T2 = macK 1 key l := by rw [hmk, hT1, hm1, hT2]
  rw [hfin] at hF17
  (refine Lx.val 15 ?_ rfl (by kernel_rfl) (by kernel_rfl) (by kernel_rfl) (fun _ _ _ h => h) (by kernel_rfl) ?_ ?_; rotate_left 1; focus (intro w hw; go_simp; with_reducible rfl)); (try simp only [Act.put, List.getElem_toArray, List.getElem_cons_succ, List.getElem_cons_zero, List.setIfInBounds_toArray, List.set_cons_zero, List.set_cons_succ])
  refine Lx.done (by kernel_rfl) ?_
  intro _
  clear hF15 hb15 hb16 hF16 hcf14 hcf15 hK14 hK15 hP2 hfin hmk hT1 hT2 hm1
  go_wp2_with fail
  go_ret
  exact ⟨_, _, rfl, hF17, hK16⟩
end Go.Proofs.YteidkdpfjponfaaDoor
