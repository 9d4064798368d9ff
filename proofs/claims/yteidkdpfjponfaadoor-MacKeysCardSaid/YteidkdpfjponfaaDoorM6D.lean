/- Layer 6: the reference's Size, Sum and Mac, both kinds; what is told of no kind. Conditions: what is read reads as bytes, small lengths; the tables. -/
import Derived.Test.YteidkdpfjponfaaDoorM6C
import Derived.Test.YteidkdpfjponfaaDoorS2O
import Derived.Test.YteidkdpfjponfaaDoorZA
namespace Go.Proofs.YteidkdpfjponfaaDoor
open Go.RowKit
set_option linter.unusedVariables false
set_option linter.unusedSimpArgs false
/-! ### no kind -/
def NilP (w : World) (e : Ending) (w' : World) : Prop := e = .returned (.slice none 0 0) ∧ Below w.heap.size w w'
set_option maxRecDepth 100000 in
theorem rsizes_no (k : Int) (w : World) (h0 : ¬ k = 0) (h1 : ¬ k = 1) : Calls Tryd.prog 27 #[.int .i64 k] w fun e w' => e = .returned (.tuple #[.int .i64 0, .int .i64 0]) ∧ w' = w := by
  go_enter Tryd.func27, Tryd.ntmps27
  go_wp2_with fail
  go_ret2
  exact ⟨rfl, rfl⟩
theorem rsums_no (k : Int) (v : Value) (w : World) (h0 : ¬ k = 0) (h1 : ¬ k = 1) : Calls Tryd.prog 29 #[.int .i64 k, v] w (NilP w) := by
  go_enter Tryd.func29, Tryd.ntmps29
  go_wp2_with fail
  go_ret
  exact ⟨rfl, Below.refl _ _⟩
theorem rmac_no (k : Int) (v v' : Value) (w : World) (h0 : ¬ k = 0) (h1 : ¬ k = 1) : Calls Tryd.prog 31 #[.int .i64 k, v, v'] w (NilP w) := by
  go_enter Tryd.func31, Tryd.ntmps31
  go_wp2_with fail
  (with_reducible refine (rsizes_no k w h0 h1).mono ?_)
  rintro e w1 ⟨rfl, rfl⟩
  go_wp2_with fail
  go_ret
  exact ⟨rfl, Below.refl _ _⟩
set_option maxRecDepth 100000 in
set_option maxHeartbeats 1000000 in
theorem sums_no (k : Int) (v : Value) (w : World) (hk : k < 0 ∨ 2 ≤ k) : Calls Tryd.prog 28 #[.int .i64 k, v] w (NilP w) := by
  go_enter Tryd.func28, Tryd.ntmps28
  go_wp2_with fail
  (with_reducible refine (of_no k w hk).mono ?_)
  rintro e w1 ⟨rfl, hb1⟩
  have h0 := Blk.new w1 65 kZ
  have hb2 := bal hb1 hb1.size (.cells kZ 65)
  have hs1 := hb1.size
  go_upto_region 2 with (refine wpList_store_row (o := ⟨none, _, _, _, _, _⟩) rfl 65 _ _ rfl _ kZ rfl rfl _ kZ h0 (by kernel_rfl) rfl (by kernel_rfl) ?_)
  have hb3 := (Kept.setRow (Kept.of_below (S := fun _ => False) hb2) w1.heap.size kZ (.inl (by omega))).below
  change Code.wp _ _ _ _ ((w1.alloc (.cells kZ 65)).setRow w1.heap.size kZ)
  generalize (w1.alloc (.cells kZ 65)).setRow w1.heap.size kZ = w3 at hb3 ⊢
  clear h0 hb1 hb2 hs1
  go_wp2_with fail
  go_ret
  exact ⟨rfl, hb3⟩
set_option maxRecDepth 100000 in
set_option maxHeartbeats 1000000 in
theorem mac_no (k : Int) (v v' : Value) (w : World) (hk : k < 0 ∨ 2 ≤ k) : Calls Tryd.prog 30 #[.int .i64 k, v, v'] w (NilP w) := by
  go_enter Tryd.func30, Tryd.ntmps30
  go_wp2_with fail
  (with_reducible refine (of_no k w hk).mono ?_)
  rintro e w1 ⟨rfl, hb1⟩
  have h0 := Blk.new w1 65 kZ
  have hb2 := bal hb1 hb1.size (.cells kZ 65)
  have hs1 := hb1.size
  go_upto_region 2 with (refine wpList_store_row (o := ⟨none, _, _, _, _, _⟩) rfl 65 _ _ rfl _ kZ rfl rfl _ kZ h0 (by kernel_rfl) rfl (by kernel_rfl) ?_)
  have hb3 := (Kept.setRow (Kept.of_below (S := fun _ => False) hb2) w1.heap.size kZ (.inl (by omega))).below
  change Code.wp _ _ _ _ ((w1.alloc (.cells kZ 65)).setRow w1.heap.size kZ)
  generalize (w1.alloc (.cells kZ 65)).setRow w1.heap.size kZ = w3 at hb3 ⊢
  clear h0 hb1 hb2 hs1
  go_wp2_with fail
  go_ret
  exact ⟨rfl, hb3⟩
set_option maxRecDepth 100000 in
set_option maxHeartbeats 1000000 in
theorem sizes_no (k : Int) (w : World) (hk : k < 0 ∨ 2 ≤ k) : Calls Tryd.prog 26 #[.int .i64 k] w fun e w' => e = .returned (.tuple #[.int .i64 0, .int .i64 0]) ∧ Below w.heap.size w w' := by
  go_enter Tryd.func26, Tryd.ntmps26
  go_wp2_with fail
  (with_reducible refine (of_no k w hk).mono ?_)
  rintro e w1 ⟨rfl, hb1⟩
  have h0 := Blk.new w1 65 kZ
  have hb2 := bal hb1 hb1.size (.cells kZ 65)
  have hs1 := hb1.size
  go_upto_region 2 with (refine wpList_store_row (o := ⟨none, _, _, _, _, _⟩) rfl 65 _ _ rfl _ kZ rfl rfl _ kZ h0 (by kernel_rfl) rfl (by kernel_rfl) ?_)
  obtain ⟨b, hb⟩ : ∃ b, w1.heap.size = b := ⟨_, rfl⟩
  have h3 := h0.setRow kZ
  have hb3 := (Kept.setRow (Kept.of_below (S := fun _ => False) hb2) w1.heap.size kZ (.inl (by omega))).below
  change Code.wp _ _ _ _ ((w1.alloc (.cells kZ 65)).setRow w1.heap.size kZ)
  rw [hb] at h3 hb3 ⊢
  generalize (w1.alloc (.cells kZ 65)).setRow b kZ = w3 at h3 hb3 ⊢
  refine Lx.enter (fun w' => w'.cell? ⟨b, 0, none⟩ = some (.int .i64 0) ∧ w'.cell? ⟨b, 1, none⟩ = some (.int .i64 0)) 6 (by kernel_rfl) (by kernel_rfl) ⟨h3.drew.cell 0 _ rfl, h3.drew.cell 1 _ rfl⟩ ?_
  (refine Lx.val 0 ?_ rfl (by kernel_rfl) (by kernel_rfl) (by kernel_rfl) (fun _ _ _ h => h) (by kernel_rfl) ?_ ?_; rotate_left 1; focus (intro w hw; go_simp; with_reducible rfl)); (try simp only [Act.put, List.getElem_toArray, List.getElem_cons_succ, List.getElem_cons_zero, List.setIfInBounds_toArray, List.set_cons_zero, List.set_cons_succ])
  (refine Lx.val 1 ?_ rfl (by kernel_rfl) (by kernel_rfl) (by kernel_rfl) (fun _ _ _ h => h) (by kernel_rfl) ?_ ?_; rotate_left 1; focus (intro w hw; have hcell := hw.1; go_simp; with_reducible rfl)); (try simp only [Act.put, List.getElem_toArray, List.getElem_cons_succ, List.getElem_cons_zero, List.setIfInBounds_toArray, List.set_cons_zero, List.set_cons_succ])
  (refine Lx.val 2 ?_ rfl (by kernel_rfl) (by kernel_rfl) (by kernel_rfl) (fun _ _ _ h => h) (by kernel_rfl) ?_ ?_; rotate_left 1; focus (intro w hw; go_simp; with_reducible rfl)); (try simp only [Act.put, List.getElem_toArray, List.getElem_cons_succ, List.getElem_cons_zero, List.setIfInBounds_toArray, List.set_cons_zero, List.set_cons_succ])
  (refine Lx.val 3 ?_ rfl (by kernel_rfl) (by kernel_rfl) (by kernel_rfl) (fun _ _ _ h => h) (by kernel_rfl) ?_ ?_; rotate_left 1; focus (intro w hw; have hcell := hw.2; go_simp; with_reducible rfl)); (try simp only [Act.put, List.getElem_toArray, List.getElem_cons_succ, List.getElem_cons_zero, List.setIfInBounds_toArray, List.set_cons_zero, List.set_cons_succ])
  (refine Lx.val 4 ?_ rfl (by kernel_rfl) (by kernel_rfl) (by kernel_rfl) (fun _ _ _ h => h) (by kernel_rfl) ?_ ?_; rotate_left 1; focus (intro w hw; go_simp; with_reducible rfl)); (try simp only [Act.put, List.getElem_toArray, List.getElem_cons_succ, List.getElem_cons_zero, List.setIfInBounds_toArray, List.set_cons_zero, List.set_cons_succ])
  (refine Lx.val 5 ?_ rfl (by kernel_rfl) (by kernel_rfl) (by kernel_rfl) (fun _ _ _ h => h) (by kernel_rfl) ?_ ?_; rotate_left 1; focus (intro w hw; go_simp; with_reducible rfl)); (try simp only [Act.put, List.getElem_toArray, List.getElem_cons_succ, List.getElem_cons_zero, List.setIfInBounds_toArray, List.set_cons_zero, List.set_cons_succ])
  refine Lx.done (by kernel_rfl) ?_
  intro _
  have hb4 := (Kept.of_below (S := fun _ => False) hb3).drew.below
  generalize w3.drew = w4 at hb4 ⊢
  clear h0 hb hb1 hb2 hs1
  go_wp2_with fail
  go_ret2
  exact ⟨rfl, hb4⟩
/-- A key's bytes, and zeros behind them. -/
theorem gt_pad (l : List Int) (n i : Nat) (h : i < l.length) : gt (padL l n) i = gt l i := by rw [padL, gt_append_left _ _ _ h]
theorem gt_pad0 (l : List Int) (n i : Nat) (h : l.length ≤ i) (hi : i < n) : gt (padL l n) i = 0 := by rw [padL, gt_append_right _ _ _ h, gt_rep _ _ _ (by omega)]
theorem xorB_take (l : List Int) (c : Int) (i : Nat) (h : i < l.length) {x : Int} (hx : gt l i = x) : xorB (l.take i) c ++ [bits .xor .u8 x c] = xorB (l.take (i + 1)) c := by
  have eg : l[i] = x := by rw [← hx]; simp [gt, h]
  rw [List.take_succ_eq_append_getElem h, eg]; simp [xorB]
theorem kbl {w w' w2 : World} {B : Nat} (h : Kept B (fun _ => False) w w') (hB : B ≤ w'.heap.size) (h2 : Below w'.heap.size w' w2) : Kept B (fun _ => False) w w2 := h.trans (S' := fun _ => False) (Kept.of_below h2) hB (fun _ _ h => h)
def RM (w0 : World) (B n : Nat) (p : List Int) (gk : Nat) (v v' x : Value) (w : World) : Prop :=
  ∃ (i : Nat) (A A' : Option Addr) (c c' : Nat), v = .slice A i c ∧ v' = .slice A' i c' ∧ x = .int .i64 i ∧ i ≤ n ∧ gk = n - i ∧ Own w B 5 .u8 (.slice A i c) (xorB (p.take i) 54) ∧ Own w B 5 .u8 (.slice A' i c') (xorB (p.take i) 92) ∧
    (∀ g, (Value.slice A i c).ownBlock = some g → (Value.slice A' i c').ownBlock ≠ some g) ∧ Kept B (fun _ => False) w0 w
/-! ### kind 0 -/
set_option maxRecDepth 100000 in
theorem rsizes_0 (w : World) : Calls Tryd.prog 27 #[.int .i64 0] w fun e w' => e = .returned (.tuple #[.int .i64 32, .int .i64 64]) ∧ w' = w := by
  go_enter Tryd.func27, Tryd.ntmps27
  go_wp2_with fail
  go_ret2
  exact ⟨rfl, rfl⟩
theorem rsums_0 (l : List Int) (A : Option Addr) (n c BB : Nat) (w : World) (hr : Rd w BB .u8 A l) (hBB : BB ≤ w.heap.size) (hn : l.length = n) (hl : n ≤ 1000000) (hb : Bys l) :
    Calls Tryd.prog 29 #[.int .i64 0, .slice A n c] w (OutP w (sumK 0 l) 32) := by
  go_enter Tryd.func29, Tryd.ntmps29
  go_wp2_with fail
  (with_reducible refine (rone2_any l (sumK 0 l) A c BB n w rfl hr hBB (by omega) hn hb).mono ?_)
  rintro e w4 ⟨A4, c4, rfl, hF4, hb4⟩
  go_wp2_with fail
  go_ret
  exact ⟨_, _, rfl, hF4, hb4⟩
set_option maxRecDepth 100000 in
set_option maxHeartbeats 2000000 in
theorem rmacS_0 (key l : List Int) (A A' : Option Addr) (n c n' c' : Nat) (w : World) (hk : Rd w w.heap.size .u8 A key) (hkn : key.length = n) (hkl : n ≤ 1000000) (hkb : Bys key) (hr : Rd w w.heap.size .u8 A' l) (hn : l.length = n') (hl : n' ≤ 900000) (hb : Bys l) (hlong : ¬ 64 < n) :
    Calls Tryd.prog 31 #[.int .i64 0, .slice A n c, .slice A' n' c'] w (OutP w (macK 0 key l) 32) := by
  have hlI : ¬ (64 : Int) < (n : Int) := by omega
  have hmx : (200000000 : Nat) ≤ maxLen := by decide
  go_enter Tryd.func31, Tryd.ntmps31
  go_wp2_with fail
  (with_reducible refine (rsizes_0 w).mono ?_)
  rintro e w3 ⟨rfl, hw3⟩
  subst w3
  have K0 := Below.refl w.heap.size w
  have hkK : keyK 0 key = key := by unfold keyK; rw [if_neg (by rw [hkn]; exact hlong)]
  have hsk := hkn
  have hky := hk
  clear hkn hk
  have hBl : n ≤ 64 := by omega
  have hrW := hr.bel K0
  obtain ⟨B, hB⟩ : ∃ B, w.heap.size = B := ⟨_, rfl⟩
  have hK4 := Kept.refl B (fun _ => False) w
  have HBB := Lib.hid (And.intro hB K0.size)
  rw [hB] at hrW hky
  clear hB
  obtain ⟨own, hown⟩ : ∃ q, padL key 64 = q := ⟨_, rfl⟩
  have holn : own.length = 64 := by rw [← hown]; exact padL_len _ _ (by omega)
  have hmk : macK 0 key l = sumK 0 (xorB own 92 ++ sumK 0 (xorB own 54 ++ l)) := by
    unfold macK; rw [hkK, show bkK 0 = 64 from rfl, hown]
  have hg1 : ∀ i, i < n → gt own i = gt key i := fun i hi => by rw [← hown]; exact gt_pad _ _ _ (by omega)
  have hg0 : ∀ i, ¬ i < n → i < 64 → gt own i = 0 := fun i hi hi2 => by rw [← hown]; exact gt_pad0 _ _ _ (by omega) hi2
  have HMK := Lib.hid hmk
  have HG := Lib.hid (And.intro hg1 hg0)
  have HSK := Lib.hid hsk
  have HOL := Lib.hid holn
  clear hmk hkK hown hg1 hg0 hsk holn
  go_wp2_with fail
  go_loopg [9, 10, 11] 64 (fun gk v v' x wr => RM w B 64 own gk v v' x wr)
  case atStart => exact ⟨0, none, none, 0, 0, rfl, rfl, rfl, Nat.zero_le _, rfl, Own.nil _ _ _ _, Own.nil _ _ _ _, fun _ h => (nomatch h), hK4⟩
  case round =>
    clear hK4
    obtain ⟨wq, rfl⟩ : ∃ wq : World, wq = wr := ⟨_, rfl⟩
    obtain ⟨i, Aa, Ab, ca, cb, rfl, rfl, rfl, hi, hgk, hOa, hOb, hap, hK⟩ := hrel
    have HGK := Lib.hid hgk
    have hwl : B ≤ wq.heap.size := by have := hK.size; have := HBB.out.1; omega
    clear hgk
    by_cases hlt : i < 64
    · have hltI : (i : Int) < (64 : Int) := by omega
      by_cases hin : i < n
      · have hinI : (i : Int) < (n : Int) := by omega
        have hrk := hky.kept hK (Nat.le_refl _) (fun _ _ h => h)
        obtain ⟨ad, hAd, hab, hcell⟩ := hrk.at_ (i := i) (by have := HSK.out; omega)
        obtain rfl := hAd
        obtain ⟨y, hy⟩ : ∃ y, gt key i = y := ⟨_, rfl⟩
        rw [hy] at hcell
        have hgx : gt own i = y := by rw [HG.out.1 i hin, hy]
        have HGX := Lib.hid hgx
        clear hy hgx hrk
        have hta := xorB_take own 54 i (by have := HOL.out; omega) HGX.out
        have htb := xorB_take own 92 i (by have := HOL.out; omega) HGX.out
        have HTA := Lib.hid hta
        have HTB := Lib.hid htb
        clear hta htb
        have hO1 := hOa.alloc (.cells (U .u8 [bits .xor .u8 y 54]) 5)
        have hN1 := Rd.of_arr (B := wq.heap.size + 1) (Arr.new wq 5 .u8 [bits .xor .u8 y 54]) (by omega)
        have hK1 := hK.alloc (.cells (U .u8 [bits .xor .u8 y 54]) 5) hwl
        have hOb1 := hOb.alloc (.cells (U .u8 [bits .xor .u8 y 54]) 5)
        go_upto_region 15 with (at_builtin; refine wpList_app rfl (.tmp 40) (.tmp 43) 22 5 .u8 1 rfl Tryd.underlying22 inf_u8 hO1 hN1 rfl rfl rfl (xorB (own.take (i + 1)) 54) HTA.out (i + 1) (by rw [xorB_len, List.length_take]; have := HOL.out; omega) (by omega) (by omega) (by simp; omega) ?_; intro A1 c1 v1 hA1 hg1 hf1)
        have hK2 := hK1.grew hO1 hg1 (Nat.le_refl _) (by simp; omega)
        have hOb2 : Own v1 B 5 .u8 (.slice Ab i cb) (xorB (own.take i) 92) := hOb1.grown hg1 (fun g hg e => hap g e hg)
        have hz2 : wq.heap.size + 1 ≤ v1.heap.size := by have := hg1.size; simpa using this
        have hap2 : ∀ g, (Value.slice A1 (i + 1) c1).ownBlock = some g → (Value.slice Ab i cb).ownBlock ≠ some g := fun g hg e => by
          rcases hf1 with h | h
          · rw [hg] at h; exact hap g h.symm e
          · rw [hg] at h; have h2 : g = wq.heap.size + 1 := by simpa using h
            have := (hOb.lt g e).2; omega
        clear hO1 hN1 hK1 hOb1 hg1 hf1 hOa hOb hap hK
        obtain ⟨wv, hwv⟩ : ∃ wv : World, wv = v1 := ⟨_, rfl⟩
        have hO3 := hOb2.alloc (.cells (U .u8 [bits .xor .u8 y 92]) 5)
        have hN3 := Rd.of_arr (B := v1.heap.size + 1) (Arr.new v1 5 .u8 [bits .xor .u8 y 92]) (by omega)
        have hK3 := hK2.alloc (.cells (U .u8 [bits .xor .u8 y 92]) 5) (by omega)
        have hOa3 := hA1.alloc (.cells (U .u8 [bits .xor .u8 y 92]) 5)
        clear hwv
        go_wp2_with (at_builtin; refine wpList_app rfl (.tmp 45) (.tmp 48) 22 5 .u8 1 rfl Tryd.underlying22 inf_u8 hO3 hN3 rfl rfl rfl (xorB (own.take (i + 1)) 92) HTB.out (i + 1) (by rw [xorB_len, List.length_take]; have := HOL.out; omega) (by omega) (by omega) (by simp; omega) ?_; intro A2 c2 v2 hB2 hg2 hf2)
        have hK4 := hK3.grew hO3 hg2 (Nat.le_refl _) (by simp; omega)
        have hA2 : Own v2 B 5 .u8 (.slice A1 (i + 1) c1) (xorB (own.take (i + 1)) 54) := hOa3.grown hg2 (fun g hg e => hap2 g hg e)
        have hap3 : ∀ g, (Value.slice A1 (i + 1) c1).ownBlock = some g → (Value.slice A2 (i + 1) c2).ownBlock ≠ some g := fun g hg e => by
          rcases hf2 with h | h
          · rw [e] at h; exact hap2 g hg h.symm
          · rw [e] at h; have h2 : g = v1.heap.size + 1 := by simpa using h
            have := (hA1.lt g hg).2; omega
        go_roundg (64 - (i + 1))
        case measure => have := HGK.out; omega
        case rel => exact ⟨i + 1, A1, A2, c1, c2, rfl, rfl, by go_num, by omega, rfl, hA2, hB2, hap3, hK4⟩
      · have hinI : ¬ (i : Int) < (n : Int) := by omega
        have hgx : gt own i = 0 := HG.out.2 i hin hlt
        have HGX := Lib.hid hgx
        clear hgx
        have hta := xorB_take own 54 i (by have := HOL.out; omega) HGX.out
        have htb := xorB_take own 92 i (by have := HOL.out; omega) HGX.out
        have HTA := Lib.hid hta
        have HTB := Lib.hid htb
        clear hta htb
        have hO1 := hOa.alloc (.cells (U .u8 [bits .xor .u8 (0 : Int) 54]) 5)
        have hN1 := Rd.of_arr (B := wq.heap.size + 1) (Arr.new wq 5 .u8 [bits .xor .u8 (0 : Int) 54]) (by omega)
        have hK1 := hK.alloc (.cells (U .u8 [bits .xor .u8 (0 : Int) 54]) 5) hwl
        have hOb1 := hOb.alloc (.cells (U .u8 [bits .xor .u8 (0 : Int) 54]) 5)
        go_upto_region 15 with (at_builtin; refine wpList_app rfl (.tmp 40) (.tmp 43) 22 5 .u8 1 rfl Tryd.underlying22 inf_u8 hO1 hN1 rfl rfl rfl (xorB (own.take (i + 1)) 54) HTA.out (i + 1) (by rw [xorB_len, List.length_take]; have := HOL.out; omega) (by omega) (by omega) (by simp; omega) ?_; intro A1 c1 v1 hA1 hg1 hf1)
        have hK2 := hK1.grew hO1 hg1 (Nat.le_refl _) (by simp; omega)
        have hOb2 : Own v1 B 5 .u8 (.slice Ab i cb) (xorB (own.take i) 92) := hOb1.grown hg1 (fun g hg e => hap g e hg)
        have hz2 : wq.heap.size + 1 ≤ v1.heap.size := by have := hg1.size; simpa using this
        have hap2 : ∀ g, (Value.slice A1 (i + 1) c1).ownBlock = some g → (Value.slice Ab i cb).ownBlock ≠ some g := fun g hg e => by
          rcases hf1 with h | h
          · rw [hg] at h; exact hap g h.symm e
          · rw [hg] at h; have h2 : g = wq.heap.size + 1 := by simpa using h
            have := (hOb.lt g e).2; omega
        clear hO1 hN1 hK1 hOb1 hg1 hf1 hOa hOb hap hK
        obtain ⟨wv, hwv⟩ : ∃ wv : World, wv = v1 := ⟨_, rfl⟩
        have hO3 := hOb2.alloc (.cells (U .u8 [bits .xor .u8 (0 : Int) 92]) 5)
        have hN3 := Rd.of_arr (B := v1.heap.size + 1) (Arr.new v1 5 .u8 [bits .xor .u8 (0 : Int) 92]) (by omega)
        have hK3 := hK2.alloc (.cells (U .u8 [bits .xor .u8 (0 : Int) 92]) 5) (by omega)
        have hOa3 := hA1.alloc (.cells (U .u8 [bits .xor .u8 (0 : Int) 92]) 5)
        clear hwv
        go_wp2_with (at_builtin; refine wpList_app rfl (.tmp 45) (.tmp 48) 22 5 .u8 1 rfl Tryd.underlying22 inf_u8 hO3 hN3 rfl rfl rfl (xorB (own.take (i + 1)) 92) HTB.out (i + 1) (by rw [xorB_len, List.length_take]; have := HOL.out; omega) (by omega) (by omega) (by simp; omega) ?_; intro A2 c2 v2 hB2 hg2 hf2)
        have hK4 := hK3.grew hO3 hg2 (Nat.le_refl _) (by simp; omega)
        have hA2 : Own v2 B 5 .u8 (.slice A1 (i + 1) c1) (xorB (own.take (i + 1)) 54) := hOa3.grown hg2 (fun g hg e => hap2 g hg e)
        have hap3 : ∀ g, (Value.slice A1 (i + 1) c1).ownBlock = some g → (Value.slice A2 (i + 1) c2).ownBlock ≠ some g := fun g hg e => by
          rcases hf2 with h | h
          · rw [e] at h; exact hap2 g hg h.symm
          · rw [e] at h; have h2 : g = v1.heap.size + 1 := by simpa using h
            have := (hA1.lt g hg).2; omega
        go_roundg (64 - (i + 1))
        case measure => have := HGK.out; omega
        case rel => exact ⟨i + 1, A1, A2, c1, c2, rfl, rfl, by go_num, by omega, rfl, hA2, hB2, hap3, hK4⟩
    · have hltI : ¬ (i : Int) < (64 : Int) := by omega
      obtain rfl : i = 64 := by omega
      rw [List.take_of_length_le (by have := HOL.out; omega)] at hOa hOb
      have hrl := hrW.kept hK (Nat.le_refl _) (fun _ _ h => h)
      obtain ⟨T1, hT1⟩ : ∃ T, xorB own 54 ++ l = T := ⟨_, rfl⟩
      have hT1l : T1.length = 64 + n' := by rw [← hT1, List.length_append, xorB_len, HOL.out, hn]
      have hT1b : Bys T1 := by rw [← hT1]; exact (xorB_B _ _).append hb
      have HT1 := Lib.hid hT1
      have HT1L := Lib.hid hT1l
      obtain ⟨m1, hm1⟩ : ∃ m, sumK 0 T1 = m := ⟨_, rfl⟩
      have hm1l : m1.length = 32 := by rw [← hm1]; exact sumK_len 0 T1
      have hm1b : Bys m1 := by rw [← hm1]; exact sumK_B 0 T1
      have HM1 := Lib.hid (And.intro hm1 hm1l)
      obtain ⟨T2, hT2⟩ : ∃ T, xorB own 92 ++ m1 = T := ⟨_, rfl⟩
      have hT2l : T2.length = 64 + 32 := by rw [← hT2, List.length_append, xorB_len, HOL.out, hm1l]
      have hT2b : Bys T2 := by rw [← hT2]; exact (xorB_B _ _).append hm1b
      have HT2 := Lib.hid (And.intro hT2 hT2l)
      clear hT1 hT1l hm1 hm1l hT2 hT2l
      go_wp2_with (at_builtin; refine wpList_app rfl (.tmp 53) (.tmp 54) 22 5 .u8 1 rfl Tryd.underlying22 inf_u8 hOa hrl rfl rfl hn T1 HT1.out (64 + n') HT1L.out (by omega) (by omega) (by omega) ?_; intro A1 c1 v1 hA1 hg1 hf1)
      have hK1 := hK.grew hOa hg1 (Nat.le_refl _) (by omega)
      have hz1 := hg1.size
      have hOb1 : Own v1 B 5 .u8 (.slice Ab 64 cb) (xorB own 92) := hOb.grown hg1 (fun g hg e => hap g e hg)
      (with_reducible refine (rsums_0 T1 A1 (64 + n') c1 v1.heap.size v1 hA1.rd (Nat.le_refl _) HT1L.out (by omega) hT1b).mono ?_)
      rintro e v2 ⟨A2, c2, rfl, hF2, hb2⟩
      have hz2 := hb2.size
      have hK2 := kbl hK1 (by omega) hb2
      have hOb2 := hOb1.below hb2 (Nat.le_refl _)
      have hR2 := hF2.rd
      rw [HM1.out.1] at hR2
      clear hA1 hg1 hf1 hF2 hb2 hOa hOb hOb1 hK1 hap hrl
      go_wp2_with (at_builtin; refine wpList_app rfl (.tmp 51) (.tmp 56) 22 5 .u8 1 rfl Tryd.underlying22 inf_u8 hOb2 hR2 rfl rfl HM1.out.2 T2 HT2.out.1 (64 + 32) HT2.out.2 (by omega) (by omega) (by omega) ?_; intro A3 c3 v3 hA3 hg3 hf3)
      have hK3 := hK2.grew hOb2 hg3 (Nat.le_refl _) (by omega)
      have hz3 := hg3.size
      (with_reducible refine (rsums_0 T2 A3 (64 + 32) c3 v3.heap.size v3 hA3.rd (Nat.le_refl _) HT2.out.2 (by omega) hT2b).mono ?_)
      rintro e v4 ⟨A4_, c4_, rfl, hF4, hb4⟩
      have hK4 := kbl hK3 (by omega) hb4
      have hF5 := hF4.low (b' := B) (by omega)
      have hfin : sumK 0 T2 = macK 0 key l := by rw [HMK.out, HT1.out, HM1.out.1, HT2.out.1]
      rw [hfin] at hF5
      clear hA3 hg3 hf3 hF4 hb4 hOb2 hK3 hfin hK2
      go_wp2_with fail
      go_ret
      exact ⟨_, _, rfl, hF5.low (by have := HBB.out; omega), K0.trans (hK4.below.mono (by have := HBB.out; omega))⟩
set_option maxRecDepth 100000 in
set_option maxHeartbeats 2000000 in
theorem rmacL_0 (key l : List Int) (A A' : Option Addr) (n c n' c' : Nat) (w : World) (hk : Rd w w.heap.size .u8 A key) (hkn : key.length = n) (hkl : n ≤ 1000000) (hkb : Bys key) (hr : Rd w w.heap.size .u8 A' l) (hn : l.length = n') (hl : n' ≤ 900000) (hb : Bys l) (hlong : 64 < n) :
    Calls Tryd.prog 31 #[.int .i64 0, .slice A n c, .slice A' n' c'] w (OutP w (macK 0 key l) 32) := by
  have hlI : (64 : Int) < (n : Int) := by omega
  have hmx : (200000000 : Nat) ≤ maxLen := by decide
  go_enter Tryd.func31, Tryd.ntmps31
  go_wp2_with fail
  (with_reducible refine (rsizes_0 w).mono ?_)
  rintro e w3 ⟨rfl, hw3⟩
  subst w3
  go_wp2_with fail
  (with_reducible refine (rsums_0 key A n c w.heap.size w hk (Nat.le_refl _) hkn hkl hkb).mono ?_)
  rintro e w4 ⟨A4, c4, rfl, hF4, hb4⟩
  have hky := hF4.rd
  have hsk : (sumK 0 key).length = 32 := sumK_len 0 key
  have hkK : keyK 0 key = sumK 0 key := by unfold keyK; rw [if_pos (by rw [hkn]; exact hlong)]
  have K0 := hb4
  obtain ⟨ky, hky_⟩ : ∃ q, sumK 0 key = q := ⟨_, rfl⟩
  rw [hky_] at hky hsk hkK
  clear hF4 hb4 hky_ hkn hkl hkb hk
  have hBl : 32 ≤ 64 := by omega
  have hrW := hr.bel K0
  obtain ⟨B, hB⟩ : ∃ B, w4.heap.size = B := ⟨_, rfl⟩
  have hK4 := Kept.refl B (fun _ => False) w4
  have HBB := Lib.hid (And.intro hB K0.size)
  rw [hB] at hrW hky
  clear hB
  obtain ⟨own, hown⟩ : ∃ q, padL ky 64 = q := ⟨_, rfl⟩
  have holn : own.length = 64 := by rw [← hown]; exact padL_len _ _ (by omega)
  have hmk : macK 0 key l = sumK 0 (xorB own 92 ++ sumK 0 (xorB own 54 ++ l)) := by
    unfold macK; rw [hkK, show bkK 0 = 64 from rfl, hown]
  have hg1 : ∀ i, i < 32 → gt own i = gt ky i := fun i hi => by rw [← hown]; exact gt_pad _ _ _ (by omega)
  have hg0 : ∀ i, ¬ i < 32 → i < 64 → gt own i = 0 := fun i hi hi2 => by rw [← hown]; exact gt_pad0 _ _ _ (by omega) hi2
  have HMK := Lib.hid hmk
  have HG := Lib.hid (And.intro hg1 hg0)
  have HSK := Lib.hid hsk
  have HOL := Lib.hid holn
  clear hmk hkK hown hg1 hg0 hsk holn
  go_wp2_with fail
  go_loopg [9, 10, 11] 64 (fun gk v v' x wr => RM w4 B 64 own gk v v' x wr)
  case atStart => exact ⟨0, none, none, 0, 0, rfl, rfl, rfl, Nat.zero_le _, rfl, Own.nil _ _ _ _, Own.nil _ _ _ _, fun _ h => (nomatch h), hK4⟩
  case round =>
    clear hK4
    obtain ⟨wq, rfl⟩ : ∃ wq : World, wq = wr := ⟨_, rfl⟩
    obtain ⟨i, Aa, Ab, ca, cb, rfl, rfl, rfl, hi, hgk, hOa, hOb, hap, hK⟩ := hrel
    have HGK := Lib.hid hgk
    have hwl : B ≤ wq.heap.size := by have := hK.size; have := HBB.out.1; omega
    clear hgk
    by_cases hlt : i < 64
    · have hltI : (i : Int) < (64 : Int) := by omega
      by_cases hin : i < 32
      · have hinI : (i : Int) < (32 : Int) := by omega
        have hrk := hky.kept hK (Nat.le_refl _) (fun _ _ h => h)
        obtain ⟨ad, hAd, hab, hcell⟩ := hrk.at_ (i := i) (by have := HSK.out; omega)
        obtain rfl := hAd
        obtain ⟨y, hy⟩ : ∃ y, gt ky i = y := ⟨_, rfl⟩
        rw [hy] at hcell
        have hgx : gt own i = y := by rw [HG.out.1 i hin, hy]
        have HGX := Lib.hid hgx
        clear hy hgx hrk
        have hta := xorB_take own 54 i (by have := HOL.out; omega) HGX.out
        have htb := xorB_take own 92 i (by have := HOL.out; omega) HGX.out
        have HTA := Lib.hid hta
        have HTB := Lib.hid htb
        clear hta htb
        have hO1 := hOa.alloc (.cells (U .u8 [bits .xor .u8 y 54]) 5)
        have hN1 := Rd.of_arr (B := wq.heap.size + 1) (Arr.new wq 5 .u8 [bits .xor .u8 y 54]) (by omega)
        have hK1 := hK.alloc (.cells (U .u8 [bits .xor .u8 y 54]) 5) hwl
        have hOb1 := hOb.alloc (.cells (U .u8 [bits .xor .u8 y 54]) 5)
        go_upto_region 15 with (at_builtin; refine wpList_app rfl (.tmp 40) (.tmp 43) 22 5 .u8 1 rfl Tryd.underlying22 inf_u8 hO1 hN1 rfl rfl rfl (xorB (own.take (i + 1)) 54) HTA.out (i + 1) (by rw [xorB_len, List.length_take]; have := HOL.out; omega) (by omega) (by omega) (by simp; omega) ?_; intro A1 c1 v1 hA1 hg1 hf1)
        have hK2 := hK1.grew hO1 hg1 (Nat.le_refl _) (by simp; omega)
        have hOb2 : Own v1 B 5 .u8 (.slice Ab i cb) (xorB (own.take i) 92) := hOb1.grown hg1 (fun g hg e => hap g e hg)
        have hz2 : wq.heap.size + 1 ≤ v1.heap.size := by have := hg1.size; simpa using this
        have hap2 : ∀ g, (Value.slice A1 (i + 1) c1).ownBlock = some g → (Value.slice Ab i cb).ownBlock ≠ some g := fun g hg e => by
          rcases hf1 with h | h
          · rw [hg] at h; exact hap g h.symm e
          · rw [hg] at h; have h2 : g = wq.heap.size + 1 := by simpa using h
            have := (hOb.lt g e).2; omega
        clear hO1 hN1 hK1 hOb1 hg1 hf1 hOa hOb hap hK
        obtain ⟨wv, hwv⟩ : ∃ wv : World, wv = v1 := ⟨_, rfl⟩
        have hO3 := hOb2.alloc (.cells (U .u8 [bits .xor .u8 y 92]) 5)
        have hN3 := Rd.of_arr (B := v1.heap.size + 1) (Arr.new v1 5 .u8 [bits .xor .u8 y 92]) (by omega)
        have hK3 := hK2.alloc (.cells (U .u8 [bits .xor .u8 y 92]) 5) (by omega)
        have hOa3 := hA1.alloc (.cells (U .u8 [bits .xor .u8 y 92]) 5)
        clear hwv
        go_wp2_with (at_builtin; refine wpList_app rfl (.tmp 45) (.tmp 48) 22 5 .u8 1 rfl Tryd.underlying22 inf_u8 hO3 hN3 rfl rfl rfl (xorB (own.take (i + 1)) 92) HTB.out (i + 1) (by rw [xorB_len, List.length_take]; have := HOL.out; omega) (by omega) (by omega) (by simp; omega) ?_; intro A2 c2 v2 hB2 hg2 hf2)
        have hK4 := hK3.grew hO3 hg2 (Nat.le_refl _) (by simp; omega)
        have hA2 : Own v2 B 5 .u8 (.slice A1 (i + 1) c1) (xorB (own.take (i + 1)) 54) := hOa3.grown hg2 (fun g hg e => hap2 g hg e)
        have hap3 : ∀ g, (Value.slice A1 (i + 1) c1).ownBlock = some g → (Value.slice A2 (i + 1) c2).ownBlock ≠ some g := fun g hg e => by
          rcases hf2 with h | h
          · rw [e] at h; exact hap2 g hg h.symm
          · rw [e] at h; have h2 : g = v1.heap.size + 1 := by simpa using h
            have := (hA1.lt g hg).2; omega
        go_roundg (64 - (i + 1))
        case measure => have := HGK.out; omega
        case rel => exact ⟨i + 1, A1, A2, c1, c2, rfl, rfl, by go_num, by omega, rfl, hA2, hB2, hap3, hK4⟩
      · have hinI : ¬ (i : Int) < (32 : Int) := by omega
        have hgx : gt own i = 0 := HG.out.2 i hin hlt
        have HGX := Lib.hid hgx
        clear hgx
        have hta := xorB_take own 54 i (by have := HOL.out; omega) HGX.out
        have htb := xorB_take own 92 i (by have := HOL.out; omega) HGX.out
        have HTA := Lib.hid hta
        have HTB := Lib.hid htb
        clear hta htb
        have hO1 := hOa.alloc (.cells (U .u8 [bits .xor .u8 (0 : Int) 54]) 5)
        have hN1 := Rd.of_arr (B := wq.heap.size + 1) (Arr.new wq 5 .u8 [bits .xor .u8 (0 : Int) 54]) (by omega)
        have hK1 := hK.alloc (.cells (U .u8 [bits .xor .u8 (0 : Int) 54]) 5) hwl
        have hOb1 := hOb.alloc (.cells (U .u8 [bits .xor .u8 (0 : Int) 54]) 5)
        go_upto_region 15 with (at_builtin; refine wpList_app rfl (.tmp 40) (.tmp 43) 22 5 .u8 1 rfl Tryd.underlying22 inf_u8 hO1 hN1 rfl rfl rfl (xorB (own.take (i + 1)) 54) HTA.out (i + 1) (by rw [xorB_len, List.length_take]; have := HOL.out; omega) (by omega) (by omega) (by simp; omega) ?_; intro A1 c1 v1 hA1 hg1 hf1)
        have hK2 := hK1.grew hO1 hg1 (Nat.le_refl _) (by simp; omega)
        have hOb2 : Own v1 B 5 .u8 (.slice Ab i cb) (xorB (own.take i) 92) := hOb1.grown hg1 (fun g hg e => hap g e hg)
        have hz2 : wq.heap.size + 1 ≤ v1.heap.size := by have := hg1.size; simpa using this
        have hap2 : ∀ g, (Value.slice A1 (i + 1) c1).ownBlock = some g → (Value.slice Ab i cb).ownBlock ≠ some g := fun g hg e => by
          rcases hf1 with h | h
          · rw [hg] at h; exact hap g h.symm e
          · rw [hg] at h; have h2 : g = wq.heap.size + 1 := by simpa using h
            have := (hOb.lt g e).2; omega
        clear hO1 hN1 hK1 hOb1 hg1 hf1 hOa hOb hap hK
        obtain ⟨wv, hwv⟩ : ∃ wv : World, wv = v1 := ⟨_, rfl⟩
        have hO3 := hOb2.alloc (.cells (U .u8 [bits .xor .u8 (0 : Int) 92]) 5)
        have hN3 := Rd.of_arr (B := v1.heap.size + 1) (Arr.new v1 5 .u8 [bits .xor .u8 (0 : Int) 92]) (by omega)
        have hK3 := hK2.alloc (.cells (U .u8 [bits .xor .u8 (0 : Int) 92]) 5) (by omega)
        have hOa3 := hA1.alloc (.cells (U .u8 [bits .xor .u8 (0 : Int) 92]) 5)
        clear hwv
        go_wp2_with (at_builtin; refine wpList_app rfl (.tmp 45) (.tmp 48) 22 5 .u8 1 rfl Tryd.underlying22 inf_u8 hO3 hN3 rfl rfl rfl (xorB (own.take (i + 1)) 92) HTB.out (i + 1) (by rw [xorB_len, List.length_take]; have := HOL.out; omega) (by omega) (by omega) (by simp; omega) ?_; intro A2 c2 v2 hB2 hg2 hf2)
        have hK4 := hK3.grew hO3 hg2 (Nat.le_refl _) (by simp; omega)
        have hA2 : Own v2 B 5 .u8 (.slice A1 (i + 1) c1) (xorB (own.take (i + 1)) 54) := hOa3.grown hg2 (fun g hg e => hap2 g hg e)
        have hap3 : ∀ g, (Value.slice A1 (i + 1) c1).ownBlock = some g → (Value.slice A2 (i + 1) c2).ownBlock ≠ some g := fun g hg e => by
          rcases hf2 with h | h
          · rw [e] at h; exact hap2 g hg h.symm
          · rw [e] at h; have h2 : g = v1.heap.size + 1 := by simpa using h
            have := (hA1.lt g hg).2; omega
        go_roundg (64 - (i + 1))
        case measure => have := HGK.out; omega
        case rel => exact ⟨i + 1, A1, A2, c1, c2, rfl, rfl, by go_num, by omega, rfl, hA2, hB2, hap3, hK4⟩
    · have hltI : ¬ (i : Int) < (64 : Int) := by omega
      obtain rfl : i = 64 := by omega
      rw [List.take_of_length_le (by have := HOL.out; omega)] at hOa hOb
      have hrl := hrW.kept hK (Nat.le_refl _) (fun _ _ h => h)
      obtain ⟨T1, hT1⟩ : ∃ T, xorB own 54 ++ l = T := ⟨_, rfl⟩
      have hT1l : T1.length = 64 + n' := by rw [← hT1, List.length_append, xorB_len, HOL.out, hn]
      have hT1b : Bys T1 := by rw [← hT1]; exact (xorB_B _ _).append hb
      have HT1 := Lib.hid hT1
      have HT1L := Lib.hid hT1l
      obtain ⟨m1, hm1⟩ : ∃ m, sumK 0 T1 = m := ⟨_, rfl⟩
      have hm1l : m1.length = 32 := by rw [← hm1]; exact sumK_len 0 T1
      have hm1b : Bys m1 := by rw [← hm1]; exact sumK_B 0 T1
      have HM1 := Lib.hid (And.intro hm1 hm1l)
      obtain ⟨T2, hT2⟩ : ∃ T, xorB own 92 ++ m1 = T := ⟨_, rfl⟩
      have hT2l : T2.length = 64 + 32 := by rw [← hT2, List.length_append, xorB_len, HOL.out, hm1l]
      have hT2b : Bys T2 := by rw [← hT2]; exact (xorB_B _ _).append hm1b
      have HT2 := Lib.hid (And.intro hT2 hT2l)
      clear hT1 hT1l hm1 hm1l hT2 hT2l
      go_wp2_with (at_builtin; refine wpList_app rfl (.tmp 53) (.tmp 54) 22 5 .u8 1 rfl Tryd.underlying22 inf_u8 hOa hrl rfl rfl hn T1 HT1.out (64 + n') HT1L.out (by omega) (by omega) (by omega) ?_; intro A1 c1 v1 hA1 hg1 hf1)
      have hK1 := hK.grew hOa hg1 (Nat.le_refl _) (by omega)
      have hz1 := hg1.size
      have hOb1 : Own v1 B 5 .u8 (.slice Ab 64 cb) (xorB own 92) := hOb.grown hg1 (fun g hg e => hap g e hg)
      (with_reducible refine (rsums_0 T1 A1 (64 + n') c1 v1.heap.size v1 hA1.rd (Nat.le_refl _) HT1L.out (by omega) hT1b).mono ?_)
      rintro e v2 ⟨A2, c2, rfl, hF2, hb2⟩
      have hz2 := hb2.size
      have hK2 := kbl hK1 (by omega) hb2
      have hOb2 := hOb1.below hb2 (Nat.le_refl _)
      have hR2 := hF2.rd
      rw [HM1.out.1] at hR2
      clear hA1 hg1 hf1 hF2 hb2 hOa hOb hOb1 hK1 hap hrl
      go_wp2_with (at_builtin; refine wpList_app rfl (.tmp 51) (.tmp 56) 22 5 .u8 1 rfl Tryd.underlying22 inf_u8 hOb2 hR2 rfl rfl HM1.out.2 T2 HT2.out.1 (64 + 32) HT2.out.2 (by omega) (by omega) (by omega) ?_; intro A3 c3 v3 hA3 hg3 hf3)
      have hK3 := hK2.grew hOb2 hg3 (Nat.le_refl _) (by omega)
      have hz3 := hg3.size
      (with_reducible refine (rsums_0 T2 A3 (64 + 32) c3 v3.heap.size v3 hA3.rd (Nat.le_refl _) HT2.out.2 (by omega) hT2b).mono ?_)
      rintro e v4 ⟨A4_, c4_, rfl, hF4, hb4⟩
      have hK4 := kbl hK3 (by omega) hb4
      have hF5 := hF4.low (b' := B) (by omega)
      have hfin : sumK 0 T2 = macK 0 key l := by rw [HMK.out, HT1.out, HM1.out.1, HT2.out.1]
      rw [hfin] at hF5
      clear hA3 hg3 hf3 hF4 hb4 hOb2 hK3 hfin hK2
      go_wp2_with fail
      go_ret
      exact ⟨_, _, rfl, hF5.low (by have := HBB.out; omega), K0.trans (hK4.below.mono (by have := HBB.out; omega))⟩
/-! ### kind 1 -/
set_option maxRecDepth 100000 in
theorem rsizes_1 (w : World) : Calls Tryd.prog 27 #[.int .i64 1] w fun e w' => e = .returned (.tuple #[.int .i64 64, .int .i64 128]) ∧ w' = w := by
  go_enter Tryd.func27, Tryd.ntmps27
  go_wp2_with fail
  go_ret2
  exact ⟨rfl, rfl⟩
theorem rsums_1 (l : List Int) (A : Option Addr) (n c BB : Nat) (w : World) (hr : Rd w BB .u8 A l) (hBB : BB ≤ w.heap.size) (hn : l.length = n) (hl : n ≤ 1000000) (hb : Bys l) :
    Calls Tryd.prog 29 #[.int .i64 1, .slice A n c] w (OutP w (sumK 1 l) 64) := by
  go_enter Tryd.func29, Tryd.ntmps29
  go_wp2_with fail
  (with_reducible refine (rone_any l A c BB n w hr hBB (by omega) hn hb).mono ?_)
  rintro e w4 ⟨A4, c4, rfl, hF4, hb4⟩
  go_wp2_with fail
  go_ret
  exact ⟨_, _, rfl, hF4, hb4⟩
set_option maxRecDepth 100000 in
set_option maxHeartbeats 2000000 in
theorem rmacS_1 (key l : List Int) (A A' : Option Addr) (n c n' c' : Nat) (w : World) (hk : Rd w w.heap.size .u8 A key) (hkn : key.length = n) (hkl : n ≤ 1000000) (hkb : Bys key) (hr : Rd w w.heap.size .u8 A' l) (hn : l.length = n') (hl : n' ≤ 900000) (hb : Bys l) (hlong : ¬ 128 < n) :
    Calls Tryd.prog 31 #[.int .i64 1, .slice A n c, .slice A' n' c'] w (OutP w (macK 1 key l) 64) := by
  have hlI : ¬ (128 : Int) < (n : Int) := by omega
  have hmx : (200000000 : Nat) ≤ maxLen := by decide
  go_enter Tryd.func31, Tryd.ntmps31
  go_wp2_with fail
  (with_reducible refine (rsizes_1 w).mono ?_)
  rintro e w3 ⟨rfl, hw3⟩
  subst w3
  have K0 := Below.refl w.heap.size w
  have hkK : keyK 1 key = key := by unfold keyK; rw [if_neg (by rw [hkn]; exact hlong)]
  have hsk := hkn
  have hky := hk
  clear hkn hk
  have hBl : n ≤ 128 := by omega
  have hrW := hr.bel K0
  obtain ⟨B, hB⟩ : ∃ B, w.heap.size = B := ⟨_, rfl⟩
  have hK4 := Kept.refl B (fun _ => False) w
  have HBB := Lib.hid (And.intro hB K0.size)
  rw [hB] at hrW hky
  clear hB
  obtain ⟨own, hown⟩ : ∃ q, padL key 128 = q := ⟨_, rfl⟩
  have holn : own.length = 128 := by rw [← hown]; exact padL_len _ _ (by omega)
  have hmk : macK 1 key l = sumK 1 (xorB own 92 ++ sumK 1 (xorB own 54 ++ l)) := by
    unfold macK; rw [hkK, show bkK 1 = 128 from rfl, hown]
  have hg1 : ∀ i, i < n → gt own i = gt key i := fun i hi => by rw [← hown]; exact gt_pad _ _ _ (by omega)
  have hg0 : ∀ i, ¬ i < n → i < 128 → gt own i = 0 := fun i hi hi2 => by rw [← hown]; exact gt_pad0 _ _ _ (by omega) hi2
  have HMK := Lib.hid hmk
  have HG := Lib.hid (And.intro hg1 hg0)
  have HSK := Lib.hid hsk
  have HOL := Lib.hid holn
  clear hmk hkK hown hg1 hg0 hsk holn
  go_wp2_with fail
  go_loopg [9, 10, 11] 128 (fun gk v v' x wr => RM w B 128 own gk v v' x wr)
  case atStart => exact ⟨0, none, none, 0, 0, rfl, rfl, rfl, Nat.zero_le _, rfl, Own.nil _ _ _ _, Own.nil _ _ _ _, fun _ h => (nomatch h), hK4⟩
  case round =>
    clear hK4
    obtain ⟨wq, rfl⟩ : ∃ wq : World, wq = wr := ⟨_, rfl⟩
    obtain ⟨i, Aa, Ab, ca, cb, rfl, rfl, rfl, hi, hgk, hOa, hOb, hap, hK⟩ := hrel
    have HGK := Lib.hid hgk
    have hwl : B ≤ wq.heap.size := by have := hK.size; have := HBB.out.1; omega
    clear hgk
    by_cases hlt : i < 128
    · have hltI : (i : Int) < (128 : Int) := by omega
      by_cases hin : i < n
      · have hinI : (i : Int) < (n : Int) := by omega
        have hrk := hky.kept hK (Nat.le_refl _) (fun _ _ h => h)
        obtain ⟨ad, hAd, hab, hcell⟩ := hrk.at_ (i := i) (by have := HSK.out; omega)
        obtain rfl := hAd
        obtain ⟨y, hy⟩ : ∃ y, gt key i = y := ⟨_, rfl⟩
        rw [hy] at hcell
        have hgx : gt own i = y := by rw [HG.out.1 i hin, hy]
        have HGX := Lib.hid hgx
        clear hy hgx hrk
        have hta := xorB_take own 54 i (by have := HOL.out; omega) HGX.out
        have htb := xorB_take own 92 i (by have := HOL.out; omega) HGX.out
        have HTA := Lib.hid hta
        have HTB := Lib.hid htb
        clear hta htb
        have hO1 := hOa.alloc (.cells (U .u8 [bits .xor .u8 y 54]) 5)
        have hN1 := Rd.of_arr (B := wq.heap.size + 1) (Arr.new wq 5 .u8 [bits .xor .u8 y 54]) (by omega)
        have hK1 := hK.alloc (.cells (U .u8 [bits .xor .u8 y 54]) 5) hwl
        have hOb1 := hOb.alloc (.cells (U .u8 [bits .xor .u8 y 54]) 5)
        go_upto_region 15 with (at_builtin; refine wpList_app rfl (.tmp 40) (.tmp 43) 22 5 .u8 1 rfl Tryd.underlying22 inf_u8 hO1 hN1 rfl rfl rfl (xorB (own.take (i + 1)) 54) HTA.out (i + 1) (by rw [xorB_len, List.length_take]; have := HOL.out; omega) (by omega) (by omega) (by simp; omega) ?_; intro A1 c1 v1 hA1 hg1 hf1)
        have hK2 := hK1.grew hO1 hg1 (Nat.le_refl _) (by simp; omega)
        have hOb2 : Own v1 B 5 .u8 (.slice Ab i cb) (xorB (own.take i) 92) := hOb1.grown hg1 (fun g hg e => hap g e hg)
        have hz2 : wq.heap.size + 1 ≤ v1.heap.size := by have := hg1.size; simpa using this
        have hap2 : ∀ g, (Value.slice A1 (i + 1) c1).ownBlock = some g → (Value.slice Ab i cb).ownBlock ≠ some g := fun g hg e => by
          rcases hf1 with h | h
          · rw [hg] at h; exact hap g h.symm e
          · rw [hg] at h; have h2 : g = wq.heap.size + 1 := by simpa using h
            have := (hOb.lt g e).2; omega
        clear hO1 hN1 hK1 hOb1 hg1 hf1 hOa hOb hap hK
        obtain ⟨wv, hwv⟩ : ∃ wv : World, wv = v1 := ⟨_, rfl⟩
        have hO3 := hOb2.alloc (.cells (U .u8 [bits .xor .u8 y 92]) 5)
        have hN3 := Rd.of_arr (B := v1.heap.size + 1) (Arr.new v1 5 .u8 [bits .xor .u8 y 92]) (by omega)
        have hK3 := hK2.alloc (.cells (U .u8 [bits .xor .u8 y 92]) 5) (by omega)
        have hOa3 := hA1.alloc (.cells (U .u8 [bits .xor .u8 y 92]) 5)
        clear hwv
        go_wp2_with (at_builtin; refine wpList_app rfl (.tmp 45) (.tmp 48) 22 5 .u8 1 rfl Tryd.underlying22 inf_u8 hO3 hN3 rfl rfl rfl (xorB (own.take (i + 1)) 92) HTB.out (i + 1) (by rw [xorB_len, List.length_take]; have := HOL.out; omega) (by omega) (by omega) (by simp; omega) ?_; intro A2 c2 v2 hB2 hg2 hf2)
        have hK4 := hK3.grew hO3 hg2 (Nat.le_refl _) (by simp; omega)
        have hA2 : Own v2 B 5 .u8 (.slice A1 (i + 1) c1) (xorB (own.take (i + 1)) 54) := hOa3.grown hg2 (fun g hg e => hap2 g hg e)
        have hap3 : ∀ g, (Value.slice A1 (i + 1) c1).ownBlock = some g → (Value.slice A2 (i + 1) c2).ownBlock ≠ some g := fun g hg e => by
          rcases hf2 with h | h
          · rw [e] at h; exact hap2 g hg h.symm
          · rw [e] at h; have h2 : g = v1.heap.size + 1 := by simpa using h
            have := (hA1.lt g hg).2; omega
        go_roundg (128 - (i + 1))
        case measure => have := HGK.out; omega
        case rel => exact ⟨i + 1, A1, A2, c1, c2, rfl, rfl, by go_num, by omega, rfl, hA2, hB2, hap3, hK4⟩
      · have hinI : ¬ (i : Int) < (n : Int) := by omega
        have hgx : gt own i = 0 := HG.out.2 i hin hlt
        have HGX := Lib.hid hgx
        clear hgx
        have hta := xorB_take own 54 i (by have := HOL.out; omega) HGX.out
        have htb := xorB_take own 92 i (by have := HOL.out; omega) HGX.out
        have HTA := Lib.hid hta
        have HTB := Lib.hid htb
        clear hta htb
        have hO1 := hOa.alloc (.cells (U .u8 [bits .xor .u8 (0 : Int) 54]) 5)
        have hN1 := Rd.of_arr (B := wq.heap.size + 1) (Arr.new wq 5 .u8 [bits .xor .u8 (0 : Int) 54]) (by omega)
        have hK1 := hK.alloc (.cells (U .u8 [bits .xor .u8 (0 : Int) 54]) 5) hwl
        have hOb1 := hOb.alloc (.cells (U .u8 [bits .xor .u8 (0 : Int) 54]) 5)
        go_upto_region 15 with (at_builtin; refine wpList_app rfl (.tmp 40) (.tmp 43) 22 5 .u8 1 rfl Tryd.underlying22 inf_u8 hO1 hN1 rfl rfl rfl (xorB (own.take (i + 1)) 54) HTA.out (i + 1) (by rw [xorB_len, List.length_take]; have := HOL.out; omega) (by omega) (by omega) (by simp; omega) ?_; intro A1 c1 v1 hA1 hg1 hf1)
        have hK2 := hK1.grew hO1 hg1 (Nat.le_refl _) (by simp; omega)
        have hOb2 : Own v1 B 5 .u8 (.slice Ab i cb) (xorB (own.take i) 92) := hOb1.grown hg1 (fun g hg e => hap g e hg)
        have hz2 : wq.heap.size + 1 ≤ v1.heap.size := by have := hg1.size; simpa using this
        have hap2 : ∀ g, (Value.slice A1 (i + 1) c1).ownBlock = some g → (Value.slice Ab i cb).ownBlock ≠ some g := fun g hg e => by
          rcases hf1 with h | h
          · rw [hg] at h; exact hap g h.symm e
          · rw [hg] at h; have h2 : g = wq.heap.size + 1 := by simpa using h
            have := (hOb.lt g e).2; omega
        clear hO1 hN1 hK1 hOb1 hg1 hf1 hOa hOb hap hK
        obtain ⟨wv, hwv⟩ : ∃ wv : World, wv = v1 := ⟨_, rfl⟩
        have hO3 := hOb2.alloc (.cells (U .u8 [bits .xor .u8 (0 : Int) 92]) 5)
        have hN3 := Rd.of_arr (B := v1.heap.size + 1) (Arr.new v1 5 .u8 [bits .xor .u8 (0 : Int) 92]) (by omega)
        have hK3 := hK2.alloc (.cells (U .u8 [bits .xor .u8 (0 : Int) 92]) 5) (by omega)
        have hOa3 := hA1.alloc (.cells (U .u8 [bits .xor .u8 (0 : Int) 92]) 5)
        clear hwv
        go_wp2_with (at_builtin; refine wpList_app rfl (.tmp 45) (.tmp 48) 22 5 .u8 1 rfl Tryd.underlying22 inf_u8 hO3 hN3 rfl rfl rfl (xorB (own.take (i + 1)) 92) HTB.out (i + 1) (by rw [xorB_len, List.length_take]; have := HOL.out; omega) (by omega) (by omega) (by simp; omega) ?_; intro A2 c2 v2 hB2 hg2 hf2)
        have hK4 := hK3.grew hO3 hg2 (Nat.le_refl _) (by simp; omega)
        have hA2 : Own v2 B 5 .u8 (.slice A1 (i + 1) c1) (xorB (own.take (i + 1)) 54) := hOa3.grown hg2 (fun g hg e => hap2 g hg e)
        have hap3 : ∀ g, (Value.slice A1 (i + 1) c1).ownBlock = some g → (Value.slice A2 (i + 1) c2).ownBlock ≠ some g := fun g hg e => by
          rcases hf2 with h | h
          · rw [e] at h; exact hap2 g hg h.symm
          · rw [e] at h; have h2 : g = v1.heap.size + 1 := by simpa using h
            have := (hA1.lt g hg).2; omega
        go_roundg (128 - (i + 1))
        case measure => have := HGK.out; omega
        case rel => exact ⟨i + 1, A1, A2, c1, c2, rfl, rfl, by go_num, by omega, rfl, hA2, hB2, hap3, hK4⟩
    · have hltI : ¬ (i : Int) < (128 : Int) := by omega
      obtain rfl : i = 128 := by omega
      rw [List.take_of_length_le (by have := HOL.out; omega)] at hOa hOb
      have hrl := hrW.kept hK (Nat.le_refl _) (fun _ _ h => h)
      obtain ⟨T1, hT1⟩ : ∃ T, xorB own 54 ++ l = T := ⟨_, rfl⟩
      have hT1l : T1.length = 128 + n' := by rw [← hT1, List.length_append, xorB_len, HOL.out, hn]
      have hT1b : Bys T1 := by rw [← hT1]; exact (xorB_B _ _).append hb
      have HT1 := Lib.hid hT1
      have HT1L := Lib.hid hT1l
      obtain ⟨m1, hm1⟩ : ∃ m, sumK 1 T1 = m := ⟨_, rfl⟩
      have hm1l : m1.length = 64 := by rw [← hm1]; exact sumK_len 1 T1
      have hm1b : Bys m1 := by rw [← hm1]; exact sumK_B 1 T1
      have HM1 := Lib.hid (And.intro hm1 hm1l)
      obtain ⟨T2, hT2⟩ : ∃ T, xorB own 92 ++ m1 = T := ⟨_, rfl⟩
      have hT2l : T2.length = 128 + 64 := by rw [← hT2, List.length_append, xorB_len, HOL.out, hm1l]
      have hT2b : Bys T2 := by rw [← hT2]; exact (xorB_B _ _).append hm1b
      have HT2 := Lib.hid (And.intro hT2 hT2l)
      clear hT1 hT1l hm1 hm1l hT2 hT2l
      go_wp2_with (at_builtin; refine wpList_app rfl (.tmp 53) (.tmp 54) 22 5 .u8 1 rfl Tryd.underlying22 inf_u8 hOa hrl rfl rfl hn T1 HT1.out (128 + n') HT1L.out (by omega) (by omega) (by omega) ?_; intro A1 c1 v1 hA1 hg1 hf1)
      have hK1 := hK.grew hOa hg1 (Nat.le_refl _) (by omega)
      have hz1 := hg1.size
      have hOb1 : Own v1 B 5 .u8 (.slice Ab 128 cb) (xorB own 92) := hOb.grown hg1 (fun g hg e => hap g e hg)
      (with_reducible refine (rsums_1 T1 A1 (128 + n') c1 v1.heap.size v1 hA1.rd (Nat.le_refl _) HT1L.out (by omega) hT1b).mono ?_)
      rintro e v2 ⟨A2, c2, rfl, hF2, hb2⟩
      have hz2 := hb2.size
      have hK2 := kbl hK1 (by omega) hb2
      have hOb2 := hOb1.below hb2 (Nat.le_refl _)
      have hR2 := hF2.rd
      rw [HM1.out.1] at hR2
      clear hA1 hg1 hf1 hF2 hb2 hOa hOb hOb1 hK1 hap hrl
      go_wp2_with (at_builtin; refine wpList_app rfl (.tmp 51) (.tmp 56) 22 5 .u8 1 rfl Tryd.underlying22 inf_u8 hOb2 hR2 rfl rfl HM1.out.2 T2 HT2.out.1 (128 + 64) HT2.out.2 (by omega) (by omega) (by omega) ?_; intro A3 c3 v3 hA3 hg3 hf3)
      have hK3 := hK2.grew hOb2 hg3 (Nat.le_refl _) (by omega)
      have hz3 := hg3.size
      (with_reducible refine (rsums_1 T2 A3 (128 + 64) c3 v3.heap.size v3 hA3.rd (Nat.le_refl _) HT2.out.2 (by omega) hT2b).mono ?_)
      rintro e v4 ⟨A4_, c4_, rfl, hF4, hb4⟩
      have hK4 := kbl hK3 (by omega) hb4
      have hF5 := hF4.low (b' := B) (by omega)
      have hfin : sumK 1 T2 = macK 1 key l := by rw [HMK.out, HT1.out, HM1.out.1, HT2.out.1]
      rw [hfin] at hF5
      clear hA3 hg3 hf3 hF4 hb4 hOb2 hK3 hfin hK2
      go_wp2_with fail
      go_ret
      exact ⟨_, _, rfl, hF5.low (by have := HBB.out; omega), K0.trans (hK4.below.mono (by have := HBB.out; omega))⟩
set_option maxRecDepth 100000 in
set_option maxHeartbeats 2000000 in
theorem rmacL_1 (key l : List Int) (A A' : Option Addr) (n c n' c' : Nat) (w : World) (hk : Rd w w.heap.size .u8 A key) (hkn : key.length = n) (hkl : n ≤ 1000000) (hkb : Bys key) (hr : Rd w w.heap.size .u8 A' l) (hn : l.length = n') (hl : n' ≤ 900000) (hb : Bys l) (hlong : 128 < n) :
    Calls Tryd.prog 31 #[.int .i64 1, .slice A n c, .slice A' n' c'] w (OutP w (macK 1 key l) 64) := by
  have hlI : (128 : Int) < (n : Int) := by omega
  have hmx : (200000000 : Nat) ≤ maxLen := by decide
  go_enter Tryd.func31, Tryd.ntmps31
  go_wp2_with fail
  (with_reducible refine (rsizes_1 w).mono ?_)
  rintro e w3 ⟨rfl, hw3⟩
  subst w3
  go_wp2_with fail
  (with_reducible refine (rsums_1 key A n c w.heap.size w hk (Nat.le_refl _) hkn hkl hkb).mono ?_)
  rintro e w4 ⟨A4, c4, rfl, hF4, hb4⟩
  have hky := hF4.rd
  have hsk : (sumK 1 key).length = 64 := sumK_len 1 key
  have hkK : keyK 1 key = sumK 1 key := by unfold keyK; rw [if_pos (by rw [hkn]; exact hlong)]
  have K0 := hb4
  obtain ⟨ky, hky_⟩ : ∃ q, sumK 1 key = q := ⟨_, rfl⟩
  rw [hky_] at hky hsk hkK
  clear hF4 hb4 hky_ hkn hkl hkb hk
  have hBl : 64 ≤ 128 := by omega
  have hrW := hr.bel K0
  obtain ⟨B, hB⟩ : ∃ B, w4.heap.size = B := ⟨_, rfl⟩
  have hK4 := Kept.refl B (fun _ => False) w4
  have HBB := Lib.hid (And.intro hB K0.size)
  rw [hB] at hrW hky
  clear hB
  obtain ⟨own, hown⟩ : ∃ q, padL ky 128 = q := ⟨_, rfl⟩
  have holn : own.length = 128 := by rw [← hown]; exact padL_len _ _ (by omega)
  have hmk : macK 1 key l = sumK 1 (xorB own 92 ++ sumK 1 (xorB own 54 ++ l)) := by
    unfold macK; rw [hkK, show bkK 1 = 128 from rfl, hown]
  have hg1 : ∀ i, i < 64 → gt own i = gt ky i := fun i hi => by rw [← hown]; exact gt_pad _ _ _ (by omega)
  have hg0 : ∀ i, ¬ i < 64 → i < 128 → gt own i = 0 := fun i hi hi2 => by rw [← hown]; exact gt_pad0 _ _ _ (by omega) hi2
  have HMK := Lib.hid hmk
  have HG := Lib.hid (And.intro hg1 hg0)
  have HSK := Lib.hid hsk
  have HOL := Lib.hid holn
  clear hmk hkK hown hg1 hg0 hsk holn
  go_wp2_with fail
  go_loopg [9, 10, 11] 128 (fun gk v v' x wr => RM w4 B 128 own gk v v' x wr)
  case atStart => exact ⟨0, none, none, 0, 0, rfl, rfl, rfl, Nat.zero_le _, rfl, Own.nil _ _ _ _, Own.nil _ _ _ _, fun _ h => (nomatch h), hK4⟩
  case round =>
    clear hK4
    obtain ⟨wq, rfl⟩ : ∃ wq : World, wq = wr := ⟨_, rfl⟩
    obtain ⟨i, Aa, Ab, ca, cb, rfl, rfl, rfl, hi, hgk, hOa, hOb, hap, hK⟩ := hrel
    have HGK := Lib.hid hgk
    have hwl : B ≤ wq.heap.size := by have := hK.size; have := HBB.out.1; omega
    clear hgk
    by_cases hlt : i < 128
    · have hltI : (i : Int) < (128 : Int) := by omega
      by_cases hin : i < 64
      · have hinI : (i : Int) < (64 : Int) := by omega
        have hrk := hky.kept hK (Nat.le_refl _) (fun _ _ h => h)
        obtain ⟨ad, hAd, hab, hcell⟩ := hrk.at_ (i := i) (by have := HSK.out; omega)
        obtain rfl := hAd
        obtain ⟨y, hy⟩ : ∃ y, gt ky i = y := ⟨_, rfl⟩
        rw [hy] at hcell
        have hgx : gt own i = y := by rw [HG.out.1 i hin, hy]
        have HGX := Lib.hid hgx
        clear hy hgx hrk
        have hta := xorB_take own 54 i (by have := HOL.out; omega) HGX.out
        have htb := xorB_take own 92 i (by have := HOL.out; omega) HGX.out
        have HTA := Lib.hid hta
        have HTB := Lib.hid htb
        clear hta htb
        have hO1 := hOa.alloc (.cells (U .u8 [bits .xor .u8 y 54]) 5)
        have hN1 := Rd.of_arr (B := wq.heap.size + 1) (Arr.new wq 5 .u8 [bits .xor .u8 y 54]) (by omega)
        have hK1 := hK.alloc (.cells (U .u8 [bits .xor .u8 y 54]) 5) hwl
        have hOb1 := hOb.alloc (.cells (U .u8 [bits .xor .u8 y 54]) 5)
        go_upto_region 15 with (at_builtin; refine wpList_app rfl (.tmp 40) (.tmp 43) 22 5 .u8 1 rfl Tryd.underlying22 inf_u8 hO1 hN1 rfl rfl rfl (xorB (own.take (i + 1)) 54) HTA.out (i + 1) (by rw [xorB_len, List.length_take]; have := HOL.out; omega) (by omega) (by omega) (by simp; omega) ?_; intro A1 c1 v1 hA1 hg1 hf1)
        have hK2 := hK1.grew hO1 hg1 (Nat.le_refl _) (by simp; omega)
        have hOb2 : Own v1 B 5 .u8 (.slice Ab i cb) (xorB (own.take i) 92) := hOb1.grown hg1 (fun g hg e => hap g e hg)
        have hz2 : wq.heap.size + 1 ≤ v1.heap.size := by have := hg1.size; simpa using this
        have hap2 : ∀ g, (Value.slice A1 (i + 1) c1).ownBlock = some g → (Value.slice Ab i cb).ownBlock ≠ some g := fun g hg e => by
          rcases hf1 with h | h
          · rw [hg] at h; exact hap g h.symm e
          · rw [hg] at h; have h2 : g = wq.heap.size + 1 := by simpa using h
            have := (hOb.lt g e).2; omega
        clear hO1 hN1 hK1 hOb1 hg1 hf1 hOa hOb hap hK
        obtain ⟨wv, hwv⟩ : ∃ wv : World, wv = v1 := ⟨_, rfl⟩
        have hO3 := hOb2.alloc (.cells (U .u8 [bits .xor .u8 y 92]) 5)
        have hN3 := Rd.of_arr (B := v1.heap.size + 1) (Arr.new v1 5 .u8 [bits .xor .u8 y 92]) (by omega)
        have hK3 := hK2.alloc (.cells (U .u8 [bits .xor .u8 y 92]) 5) (by omega)
        have hOa3 := hA1.alloc (.cells (U .u8 [bits .xor .u8 y 92]) 5)
        clear hwv
        go_wp2_with (at_builtin; refine wpList_app rfl (.tmp 45) (.tmp 48) 22 5 .u8 1 rfl Tryd.underlying22 inf_u8 hO3 hN3 rfl rfl rfl (xorB (own.take (i + 1)) 92) HTB.out (i + 1) (by rw [xorB_len, List.length_take]; have := HOL.out; omega) (by omega) (by omega) (by simp; omega) ?_; intro A2 c2 v2 hB2 hg2 hf2)
        have hK4 := hK3.grew hO3 hg2 (Nat.le_refl _) (by simp; omega)
        have hA2 : Own v2 B 5 .u8 (.slice A1 (i + 1) c1) (xorB (own.take (i + 1)) 54) := hOa3.grown hg2 (fun g hg e => hap2 g hg e)
        have hap3 : ∀ g, (Value.slice A1 (i + 1) c1).ownBlock = some g → (Value.slice A2 (i + 1) c2).ownBlock ≠ some g := fun g hg e => by
          rcases hf2 with h | h
          · rw [e] at h; exact hap2 g hg h.symm
          · rw [e] at h; have h2 : g = v1.heap.size + 1 := by simpa using h
            have := (hA1.lt g hg).2; omega
        go_roundg (128 - (i + 1))
        case measure => have := HGK.out; omega
        case rel => exact ⟨i + 1, A1, A2, c1, c2, rfl, rfl, by go_num, by omega, rfl, hA2, hB2, hap3, hK4⟩
      · have hinI : ¬ (i : Int) < (64 : Int) := by omega
        have hgx : gt own i = 0 := HG.out.2 i hin hlt
        have HGX := Lib.hid hgx
        clear hgx
        have hta := xorB_take own 54 i (by have := HOL.out; omega) HGX.out
        have htb := xorB_take own 92 i (by have := HOL.out; omega) HGX.out
        have HTA := Lib.hid hta
        have HTB := Lib.hid htb
        clear hta htb
        have hO1 := hOa.alloc (.cells (U .u8 [bits .xor .u8 (0 : Int) 54]) 5)
        have hN1 := Rd.of_arr (B := wq.heap.size + 1) (Arr.new wq 5 .u8 [bits .xor .u8 (0 : Int) 54]) (by omega)
        have hK1 := hK.alloc (.cells (U .u8 [bits .xor .u8 (0 : Int) 54]) 5) hwl
        have hOb1 := hOb.alloc (.cells (U .u8 [bits .xor .u8 (0 : Int) 54]) 5)
        go_upto_region 15 with (at_builtin; refine wpList_app rfl (.tmp 40) (.tmp 43) 22 5 .u8 1 rfl Tryd.underlying22 inf_u8 hO1 hN1 rfl rfl rfl (xorB (own.take (i + 1)) 54) HTA.out (i + 1) (by rw [xorB_len, List.length_take]; have := HOL.out; omega) (by omega) (by omega) (by simp; omega) ?_; intro A1 c1 v1 hA1 hg1 hf1)
        have hK2 := hK1.grew hO1 hg1 (Nat.le_refl _) (by simp; omega)
        have hOb2 : Own v1 B 5 .u8 (.slice Ab i cb) (xorB (own.take i) 92) := hOb1.grown hg1 (fun g hg e => hap g e hg)
        have hz2 : wq.heap.size + 1 ≤ v1.heap.size := by have := hg1.size; simpa using this
        have hap2 : ∀ g, (Value.slice A1 (i + 1) c1).ownBlock = some g → (Value.slice Ab i cb).ownBlock ≠ some g := fun g hg e => by
          rcases hf1 with h | h
          · rw [hg] at h; exact hap g h.symm e
          · rw [hg] at h; have h2 : g = wq.heap.size + 1 := by simpa using h
            have := (hOb.lt g e).2; omega
        clear hO1 hN1 hK1 hOb1 hg1 hf1 hOa hOb hap hK
        obtain ⟨wv, hwv⟩ : ∃ wv : World, wv = v1 := ⟨_, rfl⟩
        have hO3 := hOb2.alloc (.cells (U .u8 [bits .xor .u8 (0 : Int) 92]) 5)
        have hN3 := Rd.of_arr (B := v1.heap.size + 1) (Arr.new v1 5 .u8 [bits .xor .u8 (0 : Int) 92]) (by omega)
        have hK3 := hK2.alloc (.cells (U .u8 [bits .xor .u8 (0 : Int) 92]) 5) (by omega)
        have hOa3 := hA1.alloc (.cells (U .u8 [bits .xor .u8 (0 : Int) 92]) 5)
        clear hwv
        go_wp2_with (at_builtin; refine wpList_app rfl (.tmp 45) (.tmp 48) 22 5 .u8 1 rfl Tryd.underlying22 inf_u8 hO3 hN3 rfl rfl rfl (xorB (own.take (i + 1)) 92) HTB.out (i + 1) (by rw [xorB_len, List.length_take]; have := HOL.out; omega) (by omega) (by omega) (by simp; omega) ?_; intro A2 c2 v2 hB2 hg2 hf2)
        have hK4 := hK3.grew hO3 hg2 (Nat.le_refl _) (by simp; omega)
        have hA2 : Own v2 B 5 .u8 (.slice A1 (i + 1) c1) (xorB (own.take (i + 1)) 54) := hOa3.grown hg2 (fun g hg e => hap2 g hg e)
        have hap3 : ∀ g, (Value.slice A1 (i + 1) c1).ownBlock = some g → (Value.slice A2 (i + 1) c2).ownBlock ≠ some g := fun g hg e => by
          rcases hf2 with h | h
          · rw [e] at h; exact hap2 g hg h.symm
          · rw [e] at h; have h2 : g = v1.heap.size + 1 := by simpa using h
            have := (hA1.lt g hg).2; omega
        go_roundg (128 - (i + 1))
        case measure => have := HGK.out; omega
        case rel => exact ⟨i + 1, A1, A2, c1, c2, rfl, rfl, by go_num, by omega, rfl, hA2, hB2, hap3, hK4⟩
    · have hltI : ¬ (i : Int) < (128 : Int) := by omega
      obtain rfl : i = 128 := by omega
      rw [List.take_of_length_le (by have := HOL.out; omega)] at hOa hOb
      have hrl := hrW.kept hK (Nat.le_refl _) (fun _ _ h => h)
      obtain ⟨T1, hT1⟩ : ∃ T, xorB own 54 ++ l = T := ⟨_, rfl⟩
      have hT1l : T1.length = 128 + n' := by rw [← hT1, List.length_append, xorB_len, HOL.out, hn]
      have hT1b : Bys T1 := by rw [← hT1]; exact (xorB_B _ _).append hb
      have HT1 := Lib.hid hT1
      have HT1L := Lib.hid hT1l
      obtain ⟨m1, hm1⟩ : ∃ m, sumK 1 T1 = m := ⟨_, rfl⟩
      have hm1l : m1.length = 64 := by rw [← hm1]; exact sumK_len 1 T1
      have hm1b : Bys m1 := by rw [← hm1]; exact sumK_B 1 T1
      have HM1 := Lib.hid (And.intro hm1 hm1l)
      obtain ⟨T2, hT2⟩ : ∃ T, xorB own 92 ++ m1 = T := ⟨_, rfl⟩
      have hT2l : T2.length = 128 + 64 := by rw [← hT2, List.length_append, xorB_len, HOL.out, hm1l]
      have hT2b : Bys T2 := by rw [← hT2]; exact (xorB_B _ _).append hm1b
      have HT2 := Lib.hid (And.intro hT2 hT2l)
      clear hT1 hT1l hm1 hm1l hT2 hT2l
      go_wp2_with (at_builtin; refine wpList_app rfl (.tmp 53) (.tmp 54) 22 5 .u8 1 rfl Tryd.underlying22 inf_u8 hOa hrl rfl rfl hn T1 HT1.out (128 + n') HT1L.out (by omega) (by omega) (by omega) ?_; intro A1 c1 v1 hA1 hg1 hf1)
      have hK1 := hK.grew hOa hg1 (Nat.le_refl _) (by omega)
      have hz1 := hg1.size
      have hOb1 : Own v1 B 5 .u8 (.slice Ab 128 cb) (xorB own 92) := hOb.grown hg1 (fun g hg e => hap g e hg)
      (with_reducible refine (rsums_1 T1 A1 (128 + n') c1 v1.heap.size v1 hA1.rd (Nat.le_refl _) HT1L.out (by omega) hT1b).mono ?_)
      rintro e v2 ⟨A2, c2, rfl, hF2, hb2⟩
      have hz2 := hb2.size
      have hK2 := kbl hK1 (by omega) hb2
      have hOb2 := hOb1.below hb2 (Nat.le_refl _)
      have hR2 := hF2.rd
      rw [HM1.out.1] at hR2
      clear hA1 hg1 hf1 hF2 hb2 hOa hOb hOb1 hK1 hap hrl
      go_wp2_with (at_builtin; refine wpList_app rfl (.tmp 51) (.tmp 56) 22 5 .u8 1 rfl Tryd.underlying22 inf_u8 hOb2 hR2 rfl rfl HM1.out.2 T2 HT2.out.1 (128 + 64) HT2.out.2 (by omega) (by omega) (by omega) ?_; intro A3 c3 v3 hA3 hg3 hf3)
      have hK3 := hK2.grew hOb2 hg3 (Nat.le_refl _) (by omega)
      have hz3 := hg3.size
      (with_reducible refine (rsums_1 T2 A3 (128 + 64) c3 v3.heap.size v3 hA3.rd (Nat.le_refl _) HT2.out.2 (by omega) hT2b).mono ?_)
      rintro e v4 ⟨A4_, c4_, rfl, hF4, hb4⟩
      have hK4 := kbl hK3 (by omega) hb4
      have hF5 := hF4.low (b' := B) (by omega)
      have hfin : sumK 1 T2 = macK 1 key l := by rw [HMK.out, HT1.out, HM1.out.1, HT2.out.1]
      rw [hfin] at hF5
      clear hA3 hg3 hf3 hF4 hb4 hOb2 hK3 hfin hK2
      go_wp2_with fail
      go_ret
      exact ⟨_, _, rfl, hF5.low (by have := HBB.out; omega), K0.trans (hK4.below.mono (by have := HBB.out; omega))⟩
end Go.Proofs.YteidkdpfjponfaaDoor
