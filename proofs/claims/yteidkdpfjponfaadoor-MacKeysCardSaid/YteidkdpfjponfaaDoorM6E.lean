/- Layer 6: masks, both kinds, walked. Conditions: what is read reads as bytes, small lengths; the tables. -/
import Derived.Test.YteidkdpfjponfaaDoorM6D
namespace Go.Proofs.YteidkdpfjponfaaDoor
open Go.RowKit
set_option linter.unusedVariables false
set_option linter.unusedSimpArgs false
def maskN (k : Nat) (l : List Int) : Nat → List Int
  | 0 => []
  | i + 1 => maskN k l i ++ sumK k (l ++ putL i 4)
theorem maskN_len (k : Nat) (l : List Int) (i : Nat) : (maskN k l i).length = lnK k * i := by
  induction i with
  | zero => simp [maskN]
  | succ i ih => rw [maskN, List.length_append, ih, sumK_len, Nat.mul_succ]
theorem maskN_B (k : Nat) (l : List Int) (i : Nat) : Bys (maskN k l i) := by
  induction i with
  | zero => exact Bys.nil
  | succ i ih => exact ih.append (sumK_B _ _)
def maskK (k : Nat) (l : List Int) (m : Nat) : List Int := (maskN k l ((m + lnK k - 1) / lnK k)).take m
theorem Frs.take {w : World} {b c : Nat} {A : Option Addr} {l : List Int} (h : Frs w b A c l) (m : Nat) : Frs w b A c (l.take m) := by
  refine ⟨Nat.le_trans (by simp; omega) h.cap, h.max, h.nil, fun hn => ?_⟩
  obtain ⟨g, e, h1, h2, h3⟩ := h.at_ (by simp at hn; omega)
  refine ⟨g, e, h1, h2, fun i hi => ?_⟩
  rw [List.length_take] at hi
  rw [gt_take _ _ _ (by omega)]
  exact h3 i (by omega)
set_option maxRecDepth 100000 in
set_option maxHeartbeats 1000000 in
theorem mask_no (k m : Int) (v : Value) (w : World) (hk : k < 0 ∨ 2 ≤ k) : Calls Tryd.prog 32 #[.int .i64 k, v, .int .i64 m] w (NilP w) := by
  go_enter Tryd.func32, Tryd.ntmps32
  go_wp2_with fail
  (with_reducible refine (of_no k w hk).mono ?_)
  rintro e w1 ⟨rfl, hb1⟩
  have h0 := Blk.new w1 65 kZ
  have hb2 := bal hb1 hb1.size (.cells kZ 65)
  have hs1 := hb1.size
  go_upto_region 2 with (refine wpList_store_row (o := ⟨none, _, _, _, _, _⟩) rfl 65 _ _ rfl _ kZ rfl rfl _ kZ h0 (by kernel_rfl) rfl (by kernel_rfl) ?_)
  have hb3 := (Kept.setRow (Kept.of_below (S := fun _ => False) hb2) w1.heap.size kZ (.inl (by omega))).below
  change Code.wp _ _ _ _ ((w1.alloc (.cells kZ 65)).setRow w1.heap.size kZ)
  generalize (w1.alloc (.cells kZ 65)).setRow w1.heap.size kZ = w3 at hb3 ⊢
  clear h0 hb1 hb2 hs1
  go_wp2_with fail
  go_ret
  exact ⟨rfl, hb3⟩
set_option maxRecDepth 100000 in
set_option maxHeartbeats 1000000 in
theorem rmask_no (k m : Int) (v : Value) (w : World) (h0 : ¬ k = 0) (h1 : ¬ k = 1) : Calls Tryd.prog 33 #[.int .i64 k, v, .int .i64 m] w (NilP w) := by
  go_enter Tryd.func33, Tryd.ntmps33
  go_wp2_with fail
  (with_reducible refine (rsizes_no k w h0 h1).mono ?_)
  rintro e w1 ⟨rfl, hw1⟩
  subst w1
  go_wp2_with fail
  go_ret
  exact ⟨rfl, Below.refl _ _⟩
/-! ### kind 0 -/
def MI_0 (w0 : World) (B m : Nat) (l : List Int) (ik : IntKind) (gk : Nat) (v x : Value) (w : World) : Prop :=
  ∃ (i : Nat) (A : Option Addr) (c : Nat), v = .slice A (32 * i) c ∧ x = .int ik i ∧ 32 * i < m + 32 ∧ gk = m + 32 - 32 * i ∧ Own w B 5 .u8 (.slice A (32 * i) c) (maskN 0 l i) ∧ Kept B (fun _ => False) w0 w
theorem maskN_l_0 (l : List Int) (i : Nat) : (maskN 0 l i).length = 32 * i := maskN_len 0 l i
theorem maskK_0 (l : List Int) (m i : Nat) (h1 : m ≤ 32 * i) (h2 : 32 * i < m + 32) : (maskN 0 l i).take m = maskK 0 l m := by
  unfold maskK
  have : (m + lnK 0 - 1) / lnK 0 = i := by show (m + 32 - 1) / 32 = i; omega
  rw [this]
theorem maskK_len_0 (l : List Int) (m : Nat) : (maskK 0 l m).length = m := by
  have h : (maskN 0 l ((m + lnK 0 - 1) / lnK 0)).length = 32 * ((m + 32 - 1) / 32) := maskN_l_0 l _
  rw [maskK, List.length_take, h]
  omega
set_option maxRecDepth 100000 in
set_option maxHeartbeats 2000000 in
theorem maskbad_0 (m : Int) (v : Value) (w : World) (hm : m < 0 ∨ 65536 < m) : Calls Tryd.prog 32 #[.int .i64 0, v, .int .i64 m] w (NilP w) := by
  go_enter Tryd.func32, Tryd.ntmps32
  go_wp2_with fail
  (with_reducible refine (of_0 w).mono ?_)
  rintro e w1 ⟨rfl, hb1⟩
  have h0 := Blk.new w1 65 kZ
  have hb2 := bal hb1 hb1.size (.cells kZ 65)
  have hs1 := hb1.size
  have hz3 : ((w1.alloc (.cells kZ 65)).setRow w1.heap.size kV0).heap.size = w1.heap.size + 1 := by simp
  go_upto_region 2 with (refine wpList_store_row (o := ⟨none, _, _, _, _, _⟩) rfl 65 _ _ rfl _ kV0 rfl rfl _ kZ h0 (by kernel_rfl) rfl (by kernel_rfl) ?_)
  obtain ⟨b, hb_⟩ : ∃ b, w1.heap.size = b := ⟨_, rfl⟩
  have h3 := h0.setRow kV0
  have hb3 := (Kept.setRow (Kept.of_below (S := fun _ => False) hb2) w1.heap.size kV0 (.inl (by omega))).below
  change Code.wp _ _ _ _ ((w1.alloc (.cells kZ 65)).setRow w1.heap.size kV0)
  rw [hb_] at h3 hb3 hz3 ⊢
  generalize (w1.alloc (.cells kZ 65)).setRow b kV0 = w3 at h3 hb3 hz3 ⊢
  clear h0 hb1 hb2 hs1 hb_ hz3
  by_cases hm0 : m < 0
  · go_wp2_with fail
    go_ret
    exact ⟨rfl, hb3⟩
  · have hm1 : 65536 < m := by omega
    go_wp2_with fail
    go_ret
    exact ⟨rfl, hb3⟩
set_option maxRecDepth 100000 in
set_option maxHeartbeats 2000000 in
theorem mask_0 (l : List Int) (A : Option Addr) (n c m : Nat) (w : World) (hr : Rd w w.heap.size .u8 A l) (hn : l.length = n) (hl : n ≤ 900000) (hc : n ≤ c) (hb : Bys l) (hT : MTb w) (hm : m ≤ 65536) :
    Calls Tryd.prog 32 #[.int .i64 0, .slice A n c, .int .i64 m] w (OutP w (maskK 0 l m) m) := by
  have hmx : (200000000 : Nat) ≤ maxLen := by decide
  have hm0 : ¬ (m : Int) < 0 := by omega
  have hm1 : ¬ (65536 : Int) < (m : Int) := by omega
  go_enter Tryd.func32, Tryd.ntmps32
  go_wp2_with fail
  (with_reducible refine (of_0 w).mono ?_)
  rintro e w1 ⟨rfl, hb1⟩
  have h0 := Blk.new w1 65 kZ
  have hb2 := bal hb1 hb1.size (.cells kZ 65)
  have hs1 := hb1.size
  have hz3 : ((w1.alloc (.cells kZ 65)).setRow w1.heap.size kV0).heap.size = w1.heap.size + 1 := by simp
  go_upto_region 2 with (refine wpList_store_row (o := ⟨none, _, _, _, _, _⟩) rfl 65 _ _ rfl _ kV0 rfl rfl _ kZ h0 (by kernel_rfl) rfl (by kernel_rfl) ?_)
  obtain ⟨b, hb_⟩ : ∃ b, w1.heap.size = b := ⟨_, rfl⟩
  have h3 := h0.setRow kV0
  have hb3 := (Kept.setRow (Kept.of_below (S := fun _ => False) hb2) w1.heap.size kV0 (.inl (by omega))).below
  change Code.wp _ _ _ _ ((w1.alloc (.cells kZ 65)).setRow w1.heap.size kV0)
  rw [hb_] at h3 hb3 hz3 ⊢
  generalize (w1.alloc (.cells kZ 65)).setRow b kV0 = w3 at h3 hb3 hz3 ⊢
  have hcf := h3.cell 2 (.func (.func 16) #[] #[]) rfl
  obtain ⟨B, hB⟩ : ∃ B, w3.heap.size = B := ⟨_, rfl⟩
  have hr3 := hr.bel hb3
  rw [hB] at hr3 hz3
  have HB := Lib.hid (And.intro hB (And.intro hb3.size (show b < B by omega)))
  have hK3 := Kept.refl B (fun _ => False) w3
  clear h0 hb1 hb2 hs1 hb_ hz3 hB h3
  go_wp2_with fail
  go_loopg [9, 10] (m + 32) (fun gk v x wr => MI_0 w3 B m l .u64 gk v x wr)
  case atStart => exact ⟨0, none, 0, rfl, rfl, by omega, rfl, Own.nil _ _ _ _, hK3⟩
  case round =>
    clear hK3
    obtain ⟨wq, rfl⟩ : ∃ wq : World, wq = wr := ⟨_, rfl⟩
    obtain ⟨i, Ao, co, rfl, rfl, hi, hgk, hO, hK⟩ := hrel
    have HGK := Lib.hid hgk
    have hwl : B ≤ wq.heap.size := by have := hK.size; have := HB.out.1; omega
    have hol := hO.len.2
    rw [maskN_l_0] at hol
    clear hgk
    by_cases hlt : 32 * i < m
    · have hltI : (32 : Int) * (i : Int) < (m : Int) := by omega
      have hcfq : wq.cell? ⟨b, 2, none⟩ = some (.func (.func 16) #[] #[]) := (World.cell?_of_block (hK.block b HB.out.2.2 (fun h => h))).trans hcf
      have hi2 : i ≤ 70000 := by omega
      go_upto_region 8 with fail
      refine Lx.enter (fun w' => w'.cell? ⟨b, 2, none⟩ = some (.func (.func 16) #[] #[])) 11 (by kernel_rfl) (by kernel_rfl) hcfq ?_
      (refine Lx.val 0 ?_ rfl (by kernel_rfl) (by kernel_rfl) (by kernel_rfl) (fun _ _ _ h => h) (by kernel_rfl) ?_ ?_; rotate_left 1; focus (intro w hw; go_simp; with_reducible rfl)); (try simp only [Act.put, List.getElem_toArray, List.getElem_cons_succ, List.getElem_cons_zero, List.setIfInBounds_toArray, List.set_cons_zero, List.set_cons_succ])
      (refine Lx.val 1 ?_ rfl (by kernel_rfl) (by kernel_rfl) (by kernel_rfl) (fun _ _ _ h => h) (by kernel_rfl) ?_ ?_; rotate_left 1; focus (intro w hw; go_simp; with_reducible rfl)); (try simp only [Act.put, List.getElem_toArray, List.getElem_cons_succ, List.getElem_cons_zero, List.setIfInBounds_toArray, List.set_cons_zero, List.set_cons_succ])
      (refine Lx.val 2 ?_ rfl (by kernel_rfl) (by kernel_rfl) (by kernel_rfl) (fun _ _ _ h => h) (by kernel_rfl) ?_ ?_; rotate_left 1; focus (intro w hw; have hcell := hw; go_simp; with_reducible rfl)); (try simp only [Act.put, List.getElem_toArray, List.getElem_cons_succ, List.getElem_cons_zero, List.setIfInBounds_toArray, List.set_cons_zero, List.set_cons_succ])
      (refine Lx.val 3 ?_ rfl (by kernel_rfl) (by kernel_rfl) (by kernel_rfl) (fun _ _ _ h => h) (by kernel_rfl) ?_ ?_; rotate_left 1; focus (intro w hw; go_simp; with_reducible rfl)); (try simp only [Act.put, List.getElem_toArray, List.getElem_cons_succ, List.getElem_cons_zero, List.setIfInBounds_toArray, List.set_cons_zero, List.set_cons_succ])
      (refine Lx.val 4 ?_ rfl (by kernel_rfl) (by kernel_rfl) (by kernel_rfl) (fun _ _ _ h => h) (by kernel_rfl) ?_ ?_; rotate_left 1; focus (intro w hw; go_simp; with_reducible rfl)); (try simp only [Act.put, List.getElem_toArray, List.getElem_cons_succ, List.getElem_cons_zero, List.setIfInBounds_toArray, List.set_cons_zero, List.set_cons_succ])
      have hO8 := hO.drew
      have hK8 := hK.drew
      have hz8 : B ≤ wq.drew.heap.size := hwl
      have hcf8 : wq.drew.cell? ⟨b, 2, none⟩ = some (.func (.func 16) #[] #[]) := hcfq
      generalize wq.drew = w8 at hO8 hK8 hz8 hcf8 ⊢
      clear hO hK hwl hcfq
      have hbB := HB.out.2.2
      refine Lx.call 5 rfl (by kernel_rfl) (by kernel_rfl) (by kernel_rfl) (fun _ => (put_any (i : Int) 4 4 w8 rfl (by decide)).mono ?_)
      rintro e w9 ⟨A9, c9, rfl, hO9, hb9⟩
      refine ⟨_, rfl, cell_bel hcf8 hb9 (by omega), ?_⟩
      (try simp only [Act.put, List.getElem_toArray, List.getElem_cons_succ, List.getElem_cons_zero, List.setIfInBounds_toArray, List.set_cons_zero, List.set_cons_succ])
      have hK9 := kbl hK8 hz8 hb9
      have hz9 := hb9.size
      have hcf9 := cell_bel hcf8 hb9 (by omega)
      have hOo9 := hO8.below hb9 (Nat.le_refl _)
      have hr9 := hr3.kept hK9 (Nat.le_refl _) (fun _ _ h => h)
      have hc9 : 4 ≤ c9 := by have := hO9.len.2; rw [putL_len] at this; exact this
      have hP := parts2w (w := w9) (B := w9.heap.size) (T := 22) (Nat.le_refl _) ((hr9.more (by omega)).partw (n := n) (c := c) hn hc) (hO9.rd.partw (n := 4) (c := c9) (putL_len _ _) hc9)
      have hK10 := hK9.alloc (.cells #[.slice A n c, .slice A9 4 c9] 22) (by omega)
      have hcf10 := cell_al hcf9 (by omega) (.cells #[.slice A n c, .slice A9 4 c9] 22)
      have hOo10 := hOo9.alloc (.cells #[.slice A n c, .slice A9 4 c9] 22)
      have hz10 : (w9.alloc (.cells #[.slice A n c, .slice A9 4 c9] 22)).heap.size = w9.heap.size + 1 := by simp
      refine Lx.made (w' := w9.alloc (.cells #[.slice A n c, .slice A9 4 c9] 22)) 6 (.slice (some ⟨w9.heap.size, 0, none⟩) 2 2) rfl (by kernel_rfl) (by kernel_rfl) (by kernel_rfl) (fun _ => hcf10) ?_
      (try simp only [Act.put, List.getElem_toArray, List.getElem_cons_succ, List.getElem_cons_zero, List.setIfInBounds_toArray, List.set_cons_zero, List.set_cons_succ])
      generalize w9.alloc (.cells #[.slice A n c, .slice A9 4 c9] 22) = w10 at hP hK10 hcf10 hOo10 hz10 ⊢
      clear hO9 hO8 hb9 hK8 hK9 hcf8 hcf9 hOo9 hr9
      obtain ⟨T1, hT1⟩ : ∃ T, l ++ putL i 4 = T := ⟨_, rfl⟩
      have hT1l : T1.length = n + 4 := by rw [← hT1, List.length_append, putL_len, hn]
      have hT1b : Bys T1 := by rw [← hT1]; exact hb.append (putL_B _ _)
      refine Lx.call 7 rfl (by kernel_rfl) (by kernel_rfl) (by kernel_rfl) (fun _ => (cat_any w10 _ 2 (w9.heap.size + 1) 2 [l, putL i 4] T1 (by simp [hT1]) hP rfl (by omega) (by omega) (by omega) (by omega)).mono ?_)
      rintro e w11 ⟨A11, c11, rfl, hF11, hb11⟩
      refine ⟨_, rfl, cell_bel hcf10 hb11 (by omega), ?_⟩
      (try simp only [Act.put, List.getElem_toArray, List.getElem_cons_succ, List.getElem_cons_zero, List.setIfInBounds_toArray, List.set_cons_zero, List.set_cons_succ])
      have hK11 := kbl hK10 (by omega) hb11
      have hz11 := hb11.size
      have hcf11 := cell_bel hcf10 hb11 (by omega)
      have hOo11 := hOo10.below hb11 (Nat.le_refl _)
      have hc11 := hF11.cap
      rw [hT1l] at hc11 ⊢
      have hTb : MTb w11 := hT.below (hb3.trans (hK11.below.mono (by have := HB.out; omega))) (Nat.le_refl _)
      refine Lx.call 8 rfl (by kernel_rfl) (by kernel_rfl) (by kernel_rfl) (fun _ => (one_0 T1 A11 (n + 4) c11 w11.heap.size w11 hF11.rd (Nat.le_refl _) hT1l (by omega) hc11 hT1b hTb).mono ?_)
      rintro e w12 ⟨A12, c12, rfl, hF12, hb12⟩
      refine ⟨_, rfl, cell_bel hcf11 hb12 (by omega), ?_⟩
      (try simp only [Act.put, List.getElem_toArray, List.getElem_cons_succ, List.getElem_cons_zero, List.setIfInBounds_toArray, List.set_cons_zero, List.set_cons_succ])
      have hK12 := kbl hK11 (by omega) hb12
      have hz12 := hb12.size
      have hcf12 := cell_bel hcf11 hb12 (by omega)
      have hOo12 := hOo11.below hb12 (Nat.le_refl _)
      have hR12 := hF12.rd
      have hnx : maskN 0 l i ++ sumK 0 T1 = maskN 0 l (i + 1) := by rw [← hT1]; rfl
      refine Lx.app (w := w12) (c := c12) 9 rfl (by kernel_rfl) rfl (.tmp 32) (.tmp 40) 22 5 .u8 1 rfl Tryd.underlying22 inf_u8 hOo12 hR12 (by kernel_rfl) (by kernel_rfl) (sumK_len 0 T1) (maskN 0 l (i + 1)) hnx (32 * (i + 1)) (maskN_l_0 _ _) (by omega) (by omega) (by omega) ?_
      intro hS12 Ab cb wb hOb hgb hfb
      have hKb := hK12.grew hOo12 hgb (Nat.le_refl _) (by omega)
      have hcfb : wb.cell? ⟨b, 2, none⟩ = some (.func (.func 16) #[] #[]) := (World.cell?_of_block (hKb.block b hbB (fun h => h))).trans hcf
      refine ⟨hcfb, ?_⟩
      (try simp only [Act.put, List.getElem_toArray, List.getElem_cons_succ, List.getElem_cons_zero, List.setIfInBounds_toArray, List.set_cons_zero, List.set_cons_succ])
      (refine Lx.val 10 ?_ rfl (by kernel_rfl) (by kernel_rfl) (by kernel_rfl) (fun _ _ _ h => h) (by kernel_rfl) ?_ ?_; rotate_left 1; focus (intro w hw; go_simp; with_reducible rfl)); (try simp only [Act.put, List.getElem_toArray, List.getElem_cons_succ, List.getElem_cons_zero, List.setIfInBounds_toArray, List.set_cons_zero, List.set_cons_succ])
      refine Lx.done (by kernel_rfl) ?_
      intro _
      clear hF11 hb11 hF12 hb12 hcf10 hcf11 hcf12 hOo10 hOo11 hOo12 hK10 hK11 hK12 hP hT1 hnx hR12 hgb hfb hS12 hcfb
      go_wp2_with fail
      go_roundg (m + 32 - 32 * (i + 1))
      case measure => have := HGK.out; omega
      case rel => exact ⟨i + 1, Ab, cb, rfl, by go_num, by omega, rfl, hOb, hKb⟩
    · have hltI : ¬ (32 : Int) * (i : Int) < (m : Int) := by omega
      have hs2 : ∀ wx, (Instr.slice 22 (.slice Ao (32 * i) co) none (some (.int .i64 (m : Int))) none).run Tryd.prog wx = .ok (.slice Ao m co) wx := fun wx => run_slice_0v 22 5 Tryd.underlying22 (by kernel_rfl) Ao _ co m (by omega) .i64 wx
      have hfin := maskK_0 l m i (by omega) hi
      have hF := hO.frs.take m
      rw [hfin] at hF
      clear hfin hO
      go_wp2_with fail
      go_ret
      exact ⟨_, _, rfl, hF.low (by have := HB.out; omega), hb3.trans (hK.below.mono (by have := HB.out; omega))⟩
set_option maxRecDepth 100000 in
set_option maxHeartbeats 2000000 in
theorem rmaskbad_0 (m : Int) (v : Value) (w : World) (hm : m < 0 ∨ 65536 < m) : Calls Tryd.prog 33 #[.int .i64 0, v, .int .i64 m] w (NilP w) := by
  go_enter Tryd.func33, Tryd.ntmps33
  go_wp2_with fail
  (with_reducible refine (rsizes_0 w).mono ?_)
  rintro e w3 ⟨rfl, hw3⟩
  subst w3
  by_cases hm0 : m < 0
  · go_wp2_with fail
    go_ret
    exact ⟨rfl, Below.refl _ _⟩
  · have hm1 : 65536 < m := by omega
    go_wp2_with fail
    go_ret
    exact ⟨rfl, Below.refl _ _⟩
set_option maxRecDepth 100000 in
set_option maxHeartbeats 2000000 in
theorem rmask_0 (l : List Int) (A : Option Addr) (n c m : Nat) (w : World) (hr : Rd w w.heap.size .u8 A l) (hn : l.length = n) (hl : n ≤ 900000) (hc : n ≤ c) (hb : Bys l) (hm : m ≤ 65536) :
    Calls Tryd.prog 33 #[.int .i64 0, .slice A n c, .int .i64 m] w (OutP w (maskK 0 l m) m) := by
  have hmx : (200000000 : Nat) ≤ maxLen := by decide
  have hm0 : ¬ (m : Int) < 0 := by omega
  have hm1 : ¬ (65536 : Int) < (m : Int) := by omega
  obtain ⟨B, hB⟩ : ∃ B, w.heap.size = B := ⟨_, rfl⟩
  have HB := Lib.hid hB
  go_enter Tryd.func33, Tryd.ntmps33
  go_wp2_with fail
  (with_reducible refine (rsizes_0 w).mono ?_)
  rintro e w3 ⟨rfl, hw3⟩
  subst w3
  have hK3 := Kept.refl B (fun _ => False) w
  rw [hB] at hr
  clear hB
  go_wp2_with fail
  go_loopg [9, 10] (m + 32) (fun gk v x wr => MI_0 w B m l .i64 gk v x wr)
  case atStart => exact ⟨0, none, 0, rfl, rfl, by omega, rfl, Own.nil _ _ _ _, hK3⟩
  case round =>
    clear hK3
    obtain ⟨wq, rfl⟩ : ∃ wq : World, wq = wr := ⟨_, rfl⟩
    obtain ⟨i, Ao, co, rfl, rfl, hi, hgk, hO, hK⟩ := hrel
    have HGK := Lib.hid hgk
    have hwl : B ≤ wq.heap.size := by have := hK.size; have := HB.out; omega
    have hol := hO.len.2
    rw [maskN_l_0] at hol
    clear hgk
    by_cases hlt : 32 * i < m
    · have hltI : (32 : Int) * (i : Int) < (m : Int) := by omega
      have hi2 : i ≤ 70000 := by omega
      go_wp2_with fail
      have hput : Calls Tryd.prog 45 #[.int .u64 (i : Int), .int .i64 4] wq (PutPost wq i 4) := rput_any (i : Int) 4 wq (by decide) (by omega) (by omega)
      (with_reducible refine hput.mono ?_)
      rintro e w9 ⟨A9, c9, rfl, hO9, hb9⟩
      have hK9 := kbl hK hwl hb9
      have hz9 := hb9.size
      have hOo9 := hO.below hb9 (Nat.le_refl _)
      have hr9 := hr.kept hK9 (Nat.le_refl _) (fun _ _ h => h)
      have hc9 : 4 ≤ c9 := by have := hO9.len.2; rw [putL_len] at this; exact this
      have hP := parts2w (w := w9) (B := w9.heap.size) (T := 22) (Nat.le_refl _) ((hr9.more (by omega)).partw (n := n) (c := c) hn hc) (hO9.rd.partw (n := 4) (c := c9) (putL_len _ _) hc9)
      have hK10 := hK9.alloc (.cells #[.slice A n c, .slice A9 4 c9] 22) (by omega)
      have hOo10 := hOo9.alloc (.cells #[.slice A n c, .slice A9 4 c9] 22)
      have hz10 : (w9.alloc (.cells #[.slice A n c, .slice A9 4 c9] 22)).heap.size = w9.heap.size + 1 := by simp
      have HW : Hid (B ≤ w9.heap.size) := Lib.hid (by omega)
      clear hput hO9 hb9 hK9 hOo9 hr9 hO hK hwl hz9
      obtain ⟨T1, hT1⟩ : ∃ T, l ++ putL i 4 = T := ⟨_, rfl⟩
      have hT1l : T1.length = n + 4 := by rw [← hT1, List.length_append, putL_len, hn]
      have hT1b : Bys T1 := by rw [← hT1]; exact hb.append (putL_B _ _)
      have hnx : maskN 0 l i ++ sumK 0 T1 = maskN 0 l (i + 1) := by rw [← hT1]; rfl
      have HT1 := Lib.hid (And.intro hT1 (And.intro hT1l hnx))
      clear hT1 hT1l hnx
      go_wp2_with fail
      have hcat := rcat_any (w9.alloc (.cells #[.slice A n c, .slice A9 4 c9] 22)) (some ⟨w9.heap.size, 0, none⟩) 2 (w9.heap.size + 1) 2 [l, putL i 4] T1 (by have := HT1.out.1; simp [this]) hP rfl (by omega) (by omega) (by have := HT1.out.2.1; omega)
      (with_reducible refine hcat.mono ?_)
      rintro e w11 ⟨A11, c11, rfl, hF11, hb11⟩
      have hK11 := kbl hK10 (by have := HW.out; omega) hb11
      have hz11 := hb11.size
      have hOo11 := hOo10.below hb11 (Nat.le_refl _)
      have HW11 : Hid (B ≤ w11.heap.size) := Lib.hid (by have := HW.out; omega)
      rw [HT1.out.2.1]
      clear hcat hP hK10 hOo10 hb11 hz10 hz11
      go_wp2_with fail
      (with_reducible refine (rsums_0 T1 A11 (n + 4) c11 w11.heap.size w11 hF11.rd (Nat.le_refl _) HT1.out.2.1 (by omega) hT1b).mono ?_)
      rintro e w12 ⟨A12, c12, rfl, hF12, hb12⟩
      have hK12 := kbl hK11 HW11.out hb12
      have hOo12 := hOo11.below hb12 (Nat.le_refl _)
      have hR12 := hF12.rd
      have HW12 : Hid (B ≤ w12.heap.size) := Lib.hid (by have := HW11.out; have := hb12.size; omega)
      clear hF11 hF12 hb12 hOo11 hK11
      go_wp2_with (at_builtin; refine wpList_app rfl (.tmp 32) (.tmp 40) 22 5 .u8 1 rfl Tryd.underlying22 inf_u8 hOo12 hR12 rfl rfl (sumK_len 0 T1) (maskN 0 l (i + 1)) HT1.out.2.2 (32 * (i + 1)) (maskN_l_0 _ _) (by omega) (by omega) HW12.out ?_; intro Ab cb wb hOb hgb hfb)
      go_roundg (m + 32 - 32 * (i + 1))
      case measure => have := HGK.out; omega
      case rel => exact ⟨i + 1, Ab, cb, rfl, by go_num, by omega, rfl, hOb, hK12.grew hOo12 hgb (Nat.le_refl _) HW12.out⟩
    · have hltI : ¬ (32 : Int) * (i : Int) < (m : Int) := by omega
      have hs2 : ∀ wx, (Instr.slice 22 (.slice Ao (32 * i) co) none (some (.int .i64 (m : Int))) none).run Tryd.prog wx = .ok (.slice Ao m co) wx := fun wx => run_slice_0v 22 5 Tryd.underlying22 (by kernel_rfl) Ao _ co m (by omega) .i64 wx
      have hfin := maskK_0 l m i (by omega) hi
      have hF := hO.frs.take m
      rw [hfin] at hF
      clear hfin hO
      go_wp2_with fail
      go_ret
      exact ⟨_, _, rfl, by rw [HB.out]; exact hF, by rw [HB.out]; exact hK.below⟩
/-! ### kind 1 -/
def MI_1 (w0 : World) (B m : Nat) (l : List Int) (ik : IntKind) (gk : Nat) (v x : Value) (w : World) : Prop :=
  ∃ (i : Nat) (A : Option Addr) (c : Nat), v = .slice A (64 * i) c ∧ x = .int ik i ∧ 64 * i < m + 64 ∧ gk = m + 64 - 64 * i ∧ Own w B 5 .u8 (.slice A (64 * i) c) (maskN 1 l i) ∧ Kept B (fun _ => False) w0 w
theorem maskN_l_1 (l : List Int) (i : Nat) : (maskN 1 l i).length = 64 * i := maskN_len 1 l i
theorem maskK_1 (l : List Int) (m i : Nat) (h1 : m ≤ 64 * i) (h2 : 64 * i < m + 64) : (maskN 1 l i).take m = maskK 1 l m := by
  unfold maskK
  have : (m + lnK 1 - 1) / lnK 1 = i := by show (m + 64 - 1) / 64 = i; omega
  rw [this]
theorem maskK_len_1 (l : List Int) (m : Nat) : (maskK 1 l m).length = m := by
  have h : (maskN 1 l ((m + lnK 1 - 1) / lnK 1)).length = 64 * ((m + 64 - 1) / 64) := maskN_l_1 l _
  rw [maskK, List.length_take, h]
  omega
set_option maxRecDepth 100000 in
set_option maxHeartbeats 2000000 in
theorem maskbad_1 (m : Int) (v : Value) (w : World) (hm : m < 0 ∨ 65536 < m) : Calls Tryd.prog 32 #[.int .i64 1, v, .int .i64 m] w (NilP w) := by
  go_enter Tryd.func32, Tryd.ntmps32
  go_wp2_with fail
  (with_reducible refine (of_1 w).mono ?_)
  rintro e w1 ⟨rfl, hb1⟩
  have h0 := Blk.new w1 65 kZ
  have hb2 := bal hb1 hb1.size (.cells kZ 65)
  have hs1 := hb1.size
  have hz3 : ((w1.alloc (.cells kZ 65)).setRow w1.heap.size kV1).heap.size = w1.heap.size + 1 := by simp
  go_upto_region 2 with (refine wpList_store_row (o := ⟨none, _, _, _, _, _⟩) rfl 65 _ _ rfl _ kV1 rfl rfl _ kZ h0 (by kernel_rfl) rfl (by kernel_rfl) ?_)
  obtain ⟨b, hb_⟩ : ∃ b, w1.heap.size = b := ⟨_, rfl⟩
  have h3 := h0.setRow kV1
  have hb3 := (Kept.setRow (Kept.of_below (S := fun _ => False) hb2) w1.heap.size kV1 (.inl (by omega))).below
  change Code.wp _ _ _ _ ((w1.alloc (.cells kZ 65)).setRow w1.heap.size kV1)
  rw [hb_] at h3 hb3 hz3 ⊢
  generalize (w1.alloc (.cells kZ 65)).setRow b kV1 = w3 at h3 hb3 hz3 ⊢
  clear h0 hb1 hb2 hs1 hb_ hz3
  by_cases hm0 : m < 0
  · go_wp2_with fail
    go_ret
    exact ⟨rfl, hb3⟩
  · have hm1 : 65536 < m := by omega
    go_wp2_with fail
    go_ret
    exact ⟨rfl, hb3⟩
set_option maxRecDepth 100000 in
set_option maxHeartbeats 2000000 in
theorem mask_1 (l : List Int) (A : Option Addr) (n c m : Nat) (w : World) (hr : Rd w w.heap.size .u8 A l) (hn : l.length = n) (hl : n ≤ 900000) (hc : n ≤ c) (hb : Bys l) (hT : MTb w) (hm : m ≤ 65536) :
    Calls Tryd.prog 32 #[.int .i64 1, .slice A n c, .int .i64 m] w (OutP w (maskK 1 l m) m) := by
  have hmx : (200000000 : Nat) ≤ maxLen := by decide
  have hm0 : ¬ (m : Int) < 0 := by omega
  have hm1 : ¬ (65536 : Int) < (m : Int) := by omega
  go_enter Tryd.func32, Tryd.ntmps32
  go_wp2_with fail
  (with_reducible refine (of_1 w).mono ?_)
  rintro e w1 ⟨rfl, hb1⟩
  have h0 := Blk.new w1 65 kZ
  have hb2 := bal hb1 hb1.size (.cells kZ 65)
  have hs1 := hb1.size
  have hz3 : ((w1.alloc (.cells kZ 65)).setRow w1.heap.size kV1).heap.size = w1.heap.size + 1 := by simp
  go_upto_region 2 with (refine wpList_store_row (o := ⟨none, _, _, _, _, _⟩) rfl 65 _ _ rfl _ kV1 rfl rfl _ kZ h0 (by kernel_rfl) rfl (by kernel_rfl) ?_)
  obtain ⟨b, hb_⟩ : ∃ b, w1.heap.size = b := ⟨_, rfl⟩
  have h3 := h0.setRow kV1
  have hb3 := (Kept.setRow (Kept.of_below (S := fun _ => False) hb2) w1.heap.size kV1 (.inl (by omega))).below
  change Code.wp _ _ _ _ ((w1.alloc (.cells kZ 65)).setRow w1.heap.size kV1)
  rw [hb_] at h3 hb3 hz3 ⊢
  generalize (w1.alloc (.cells kZ 65)).setRow b kV1 = w3 at h3 hb3 hz3 ⊢
  have hcf := h3.cell 2 (.func (.func 34) #[] #[]) rfl
  obtain ⟨B, hB⟩ : ∃ B, w3.heap.size = B := ⟨_, rfl⟩
  have hr3 := hr.bel hb3
  rw [hB] at hr3 hz3
  have HB := Lib.hid (And.intro hB (And.intro hb3.size (show b < B by omega)))
  have hK3 := Kept.refl B (fun _ => False) w3
  clear h0 hb1 hb2 hs1 hb_ hz3 hB h3
  go_wp2_with fail
  go_loopg [9, 10] (m + 64) (fun gk v x wr => MI_1 w3 B m l .u64 gk v x wr)
  case atStart => exact ⟨0, none, 0, rfl, rfl, by omega, rfl, Own.nil _ _ _ _, hK3⟩
  case round =>
    clear hK3
    obtain ⟨wq, rfl⟩ : ∃ wq : World, wq = wr := ⟨_, rfl⟩
    obtain ⟨i, Ao, co, rfl, rfl, hi, hgk, hO, hK⟩ := hrel
    have HGK := Lib.hid hgk
    have hwl : B ≤ wq.heap.size := by have := hK.size; have := HB.out.1; omega
    have hol := hO.len.2
    rw [maskN_l_1] at hol
    clear hgk
    by_cases hlt : 64 * i < m
    · have hltI : (64 : Int) * (i : Int) < (m : Int) := by omega
      have hcfq : wq.cell? ⟨b, 2, none⟩ = some (.func (.func 34) #[] #[]) := (World.cell?_of_block (hK.block b HB.out.2.2 (fun h => h))).trans hcf
      have hi2 : i ≤ 70000 := by omega
      go_upto_region 8 with fail
      refine Lx.enter (fun w' => w'.cell? ⟨b, 2, none⟩ = some (.func (.func 34) #[] #[])) 11 (by kernel_rfl) (by kernel_rfl) hcfq ?_
      (refine Lx.val 0 ?_ rfl (by kernel_rfl) (by kernel_rfl) (by kernel_rfl) (fun _ _ _ h => h) (by kernel_rfl) ?_ ?_; rotate_left 1; focus (intro w hw; go_simp; with_reducible rfl)); (try simp only [Act.put, List.getElem_toArray, List.getElem_cons_succ, List.getElem_cons_zero, List.setIfInBounds_toArray, List.set_cons_zero, List.set_cons_succ])
      (refine Lx.val 1 ?_ rfl (by kernel_rfl) (by kernel_rfl) (by kernel_rfl) (fun _ _ _ h => h) (by kernel_rfl) ?_ ?_; rotate_left 1; focus (intro w hw; go_simp; with_reducible rfl)); (try simp only [Act.put, List.getElem_toArray, List.getElem_cons_succ, List.getElem_cons_zero, List.setIfInBounds_toArray, List.set_cons_zero, List.set_cons_succ])
      (refine Lx.val 2 ?_ rfl (by kernel_rfl) (by kernel_rfl) (by kernel_rfl) (fun _ _ _ h => h) (by kernel_rfl) ?_ ?_; rotate_left 1; focus (intro w hw; have hcell := hw; go_simp; with_reducible rfl)); (try simp only [Act.put, List.getElem_toArray, List.getElem_cons_succ, List.getElem_cons_zero, List.setIfInBounds_toArray, List.set_cons_zero, List.set_cons_succ])
      (refine Lx.val 3 ?_ rfl (by kernel_rfl) (by kernel_rfl) (by kernel_rfl) (fun _ _ _ h => h) (by kernel_rfl) ?_ ?_; rotate_left 1; focus (intro w hw; go_simp; with_reducible rfl)); (try simp only [Act.put, List.getElem_toArray, List.getElem_cons_succ, List.getElem_cons_zero, List.setIfInBounds_toArray, List.set_cons_zero, List.set_cons_succ])
      (refine Lx.val 4 ?_ rfl (by kernel_rfl) (by kernel_rfl) (by kernel_rfl) (fun _ _ _ h => h) (by kernel_rfl) ?_ ?_; rotate_left 1; focus (intro w hw; go_simp; with_reducible rfl)); (try simp only [Act.put, List.getElem_toArray, List.getElem_cons_succ, List.getElem_cons_zero, List.setIfInBounds_toArray, List.set_cons_zero, List.set_cons_succ])
      have hO8 := hO.drew
      have hK8 := hK.drew
      have hz8 : B ≤ wq.drew.heap.size := hwl
      have hcf8 : wq.drew.cell? ⟨b, 2, none⟩ = some (.func (.func 34) #[] #[]) := hcfq
      generalize wq.drew = w8 at hO8 hK8 hz8 hcf8 ⊢
      clear hO hK hwl hcfq
      have hbB := HB.out.2.2
      refine Lx.call 5 rfl (by kernel_rfl) (by kernel_rfl) (by kernel_rfl) (fun _ => (put_any (i : Int) 4 4 w8 rfl (by decide)).mono ?_)
      rintro e w9 ⟨A9, c9, rfl, hO9, hb9⟩
      refine ⟨_, rfl, cell_bel hcf8 hb9 (by omega), ?_⟩
      (try simp only [Act.put, List.getElem_toArray, List.getElem_cons_succ, List.getElem_cons_zero, List.setIfInBounds_toArray, List.set_cons_zero, List.set_cons_succ])
      have hK9 := kbl hK8 hz8 hb9
      have hz9 := hb9.size
      have hcf9 := cell_bel hcf8 hb9 (by omega)
      have hOo9 := hO8.below hb9 (Nat.le_refl _)
      have hr9 := hr3.kept hK9 (Nat.le_refl _) (fun _ _ h => h)
      have hc9 : 4 ≤ c9 := by have := hO9.len.2; rw [putL_len] at this; exact this
      have hP := parts2w (w := w9) (B := w9.heap.size) (T := 22) (Nat.le_refl _) ((hr9.more (by omega)).partw (n := n) (c := c) hn hc) (hO9.rd.partw (n := 4) (c := c9) (putL_len _ _) hc9)
      have hK10 := hK9.alloc (.cells #[.slice A n c, .slice A9 4 c9] 22) (by omega)
      have hcf10 := cell_al hcf9 (by omega) (.cells #[.slice A n c, .slice A9 4 c9] 22)
      have hOo10 := hOo9.alloc (.cells #[.slice A n c, .slice A9 4 c9] 22)
      have hz10 : (w9.alloc (.cells #[.slice A n c, .slice A9 4 c9] 22)).heap.size = w9.heap.size + 1 := by simp
      refine Lx.made (w' := w9.alloc (.cells #[.slice A n c, .slice A9 4 c9] 22)) 6 (.slice (some ⟨w9.heap.size, 0, none⟩) 2 2) rfl (by kernel_rfl) (by kernel_rfl) (by kernel_rfl) (fun _ => hcf10) ?_
      (try simp only [Act.put, List.getElem_toArray, List.getElem_cons_succ, List.getElem_cons_zero, List.setIfInBounds_toArray, List.set_cons_zero, List.set_cons_succ])
      generalize w9.alloc (.cells #[.slice A n c, .slice A9 4 c9] 22) = w10 at hP hK10 hcf10 hOo10 hz10 ⊢
      clear hO9 hO8 hb9 hK8 hK9 hcf8 hcf9 hOo9 hr9
      obtain ⟨T1, hT1⟩ : ∃ T, l ++ putL i 4 = T := ⟨_, rfl⟩
      have hT1l : T1.length = n + 4 := by rw [← hT1, List.length_append, putL_len, hn]
      have hT1b : Bys T1 := by rw [← hT1]; exact hb.append (putL_B _ _)
      refine Lx.call 7 rfl (by kernel_rfl) (by kernel_rfl) (by kernel_rfl) (fun _ => (cat_any w10 _ 2 (w9.heap.size + 1) 2 [l, putL i 4] T1 (by simp [hT1]) hP rfl (by omega) (by omega) (by omega) (by omega)).mono ?_)
      rintro e w11 ⟨A11, c11, rfl, hF11, hb11⟩
      refine ⟨_, rfl, cell_bel hcf10 hb11 (by omega), ?_⟩
      (try simp only [Act.put, List.getElem_toArray, List.getElem_cons_succ, List.getElem_cons_zero, List.setIfInBounds_toArray, List.set_cons_zero, List.set_cons_succ])
      have hK11 := kbl hK10 (by omega) hb11
      have hz11 := hb11.size
      have hcf11 := cell_bel hcf10 hb11 (by omega)
      have hOo11 := hOo10.below hb11 (Nat.le_refl _)
      have hc11 := hF11.cap
      rw [hT1l] at hc11 ⊢
      have hTb : MTb w11 := hT.below (hb3.trans (hK11.below.mono (by have := HB.out; omega))) (Nat.le_refl _)
      refine Lx.call 8 rfl (by kernel_rfl) (by kernel_rfl) (by kernel_rfl) (fun _ => (one_1 T1 A11 (n + 4) c11 w11.heap.size w11 hF11.rd (Nat.le_refl _) hT1l (by omega) hc11 hT1b hTb).mono ?_)
      rintro e w12 ⟨A12, c12, rfl, hF12, hb12⟩
      refine ⟨_, rfl, cell_bel hcf11 hb12 (by omega), ?_⟩
      (try simp only [Act.put, List.getElem_toArray, List.getElem_cons_succ, List.getElem_cons_zero, List.setIfInBounds_toArray, List.set_cons_zero, List.set_cons_succ])
      have hK12 := kbl hK11 (by omega) hb12
      have hz12 := hb12.size
      have hcf12 := cell_bel hcf11 hb12 (by omega)
      have hOo12 := hOo11.below hb12 (Nat.le_refl _)
      have hR12 := hF12.rd
      have hnx : maskN 1 l i ++ sumK 1 T1 = maskN 1 l (i + 1) := by rw [← hT1]; rfl
      refine Lx.app (w := w12) (c := c12) 9 rfl (by kernel_rfl) rfl (.tmp 32) (.tmp 40) 22 5 .u8 1 rfl Tryd.underlying22 inf_u8 hOo12 hR12 (by kernel_rfl) (by kernel_rfl) (sumK_len 1 T1) (maskN 1 l (i + 1)) hnx (64 * (i + 1)) (maskN_l_1 _ _) (by omega) (by omega) (by omega) ?_
      intro hS12 Ab cb wb hOb hgb hfb
      have hKb := hK12.grew hOo12 hgb (Nat.le_refl _) (by omega)
      have hcfb : wb.cell? ⟨b, 2, none⟩ = some (.func (.func 34) #[] #[]) := (World.cell?_of_block (hKb.block b hbB (fun h => h))).trans hcf
      refine ⟨hcfb, ?_⟩
      (try simp only [Act.put, List.getElem_toArray, List.getElem_cons_succ, List.getElem_cons_zero, List.setIfInBounds_toArray, List.set_cons_zero, List.set_cons_succ])
      (refine Lx.val 10 ?_ rfl (by kernel_rfl) (by kernel_rfl) (by kernel_rfl) (fun _ _ _ h => h) (by kernel_rfl) ?_ ?_; rotate_left 1; focus (intro w hw; go_simp; with_reducible rfl)); (try simp only [Act.put, List.getElem_toArray, List.getElem_cons_succ, List.getElem_cons_zero, List.setIfInBounds_toArray, List.set_cons_zero, List.set_cons_succ])
      refine Lx.done (by kernel_rfl) ?_
      intro _
      clear hF11 hb11 hF12 hb12 hcf10 hcf11 hcf12 hOo10 hOo11 hOo12 hK10 hK11 hK12 hP hT1 hnx hR12 hgb hfb hS12 hcfb
      go_wp2_with fail
      go_roundg (m + 64 - 64 * (i + 1))
      case measure => have := HGK.out; omega
      case rel => exact ⟨i + 1, Ab, cb, rfl, by go_num, by omega, rfl, hOb, hKb⟩
    · have hltI : ¬ (64 : Int) * (i : Int) < (m : Int) := by omega
      have hs2 : ∀ wx, (Instr.slice 22 (.slice Ao (64 * i) co) none (some (.int .i64 (m : Int))) none).run Tryd.prog wx = .ok (.slice Ao m co) wx := fun wx => run_slice_0v 22 5 Tryd.underlying22 (by kernel_rfl) Ao _ co m (by omega) .i64 wx
      have hfin := maskK_1 l m i (by omega) hi
      have hF := hO.frs.take m
      rw [hfin] at hF
      clear hfin hO
      go_wp2_with fail
      go_ret
      exact ⟨_, _, rfl, hF.low (by have := HB.out; omega), hb3.trans (hK.below.mono (by have := HB.out; omega))⟩
set_option maxRecDepth 100000 in
set_option maxHeartbeats 2000000 in
theorem rmaskbad_1 (m : Int) (v : Value) (w : World) (hm : m < 0 ∨ 65536 < m) : Calls Tryd.prog 33 #[.int .i64 1, v, .int .i64 m] w (NilP w) := by
  go_enter Tryd.func33, Tryd.ntmps33
  go_wp2_with fail
  (with_reducible refine (rsizes_1 w).mono ?_)
  rintro e w3 ⟨rfl, hw3⟩
  subst w3
  by_cases hm0 : m < 0
  · go_wp2_with fail
    go_ret
    exact ⟨rfl, Below.refl _ _⟩
  · have hm1 : 65536 < m := by omega
    go_wp2_with fail
    go_ret
    exact ⟨rfl, Below.refl _ _⟩
set_option maxRecDepth 100000 in
set_option maxHeartbeats 2000000 in
theorem rmask_1 (l : List Int) (A : Option Addr) (n c m : Nat) (w : World) (hr : Rd w w.heap.size .u8 A l) (hn : l.length = n) (hl : n ≤ 900000) (hc : n ≤ c) (hb : Bys l) (hm : m ≤ 65536) :
    Calls Tryd.prog 33 #[.int .i64 1, .slice A n c, .int .i64 m] w (OutP w (maskK 1 l m) m) := by
  have hmx : (200000000 : Nat) ≤ maxLen := by decide
  have hm0 : ¬ (m : Int) < 0 := by omega
  have hm1 : ¬ (65536 : Int) < (m : Int) := by omega
  obtain ⟨B, hB⟩ : ∃ B, w.heap.size = B := ⟨_, rfl⟩
  have HB := Lib.hid hB
  go_enter Tryd.func33, Tryd.ntmps33
  go_wp2_with fail
  (with_reducible refine (rsizes_1 w).mono ?_)
  rintro e w3 ⟨rfl, hw3⟩
  subst w3
  have hK3 := Kept.refl B (fun _ => False) w
  rw [hB] at hr
  clear hB
  go_wp2_with fail
  go_loopg [9, 10] (m + 64) (fun gk v x wr => MI_1 w B m l .i64 gk v x wr)
  case atStart => exact ⟨0, none, 0, rfl, rfl, by omega, rfl, Own.nil _ _ _ _, hK3⟩
  case round =>
    clear hK3
    obtain ⟨wq, rfl⟩ : ∃ wq : World, wq = wr := ⟨_, rfl⟩
    obtain ⟨i, Ao, co, rfl, rfl, hi, hgk, hO, hK⟩ := hrel
    have HGK := Lib.hid hgk
    have hwl : B ≤ wq.heap.size := by have := hK.size; have := HB.out; omega
    have hol := hO.len.2
    rw [maskN_l_1] at hol
    clear hgk
    by_cases hlt : 64 * i < m
    · have hltI : (64 : Int) * (i : Int) < (m : Int) := by omega
      have hi2 : i ≤ 70000 := by omega
      go_wp2_with fail
      have hput : Calls Tryd.prog 45 #[.int .u64 (i : Int), .int .i64 4] wq (PutPost wq i 4) := rput_any (i : Int) 4 wq (by decide) (by omega) (by omega)
      (with_reducible refine hput.mono ?_)
      rintro e w9 ⟨A9, c9, rfl, hO9, hb9⟩
      have hK9 := kbl hK hwl hb9
      have hz9 := hb9.size
      have hOo9 := hO.below hb9 (Nat.le_refl _)
      have hr9 := hr.kept hK9 (Nat.le_refl _) (fun _ _ h => h)
      have hc9 : 4 ≤ c9 := by have := hO9.len.2; rw [putL_len] at this; exact this
      have hP := parts2w (w := w9) (B := w9.heap.size) (T := 22) (Nat.le_refl _) ((hr9.more (by omega)).partw (n := n) (c := c) hn hc) (hO9.rd.partw (n := 4) (c := c9) (putL_len _ _) hc9)
      have hK10 := hK9.alloc (.cells #[.slice A n c, .slice A9 4 c9] 22) (by omega)
      have hOo10 := hOo9.alloc (.cells #[.slice A n c, .slice A9 4 c9] 22)
      have hz10 : (w9.alloc (.cells #[.slice A n c, .slice A9 4 c9] 22)).heap.size = w9.heap.size + 1 := by simp
      have HW : Hid (B ≤ w9.heap.size) := Lib.hid (by omega)
      clear hput hO9 hb9 hK9 hOo9 hr9 hO hK hwl hz9
      obtain ⟨T1, hT1⟩ : ∃ T, l ++ putL i 4 = T := ⟨_, rfl⟩
      have hT1l : T1.length = n + 4 := by rw [← hT1, List.length_append, putL_len, hn]
      have hT1b : Bys T1 := by rw [← hT1]; exact hb.append (putL_B _ _)
      have hnx : maskN 1 l i ++ sumK 1 T1 = maskN 1 l (i + 1) := by rw [← hT1]; rfl
      have HT1 := Lib.hid (And.intro hT1 (And.intro hT1l hnx))
      clear hT1 hT1l hnx
      go_wp2_with fail
      have hcat := rcat_any (w9.alloc (.cells #[.slice A n c, .slice A9 4 c9] 22)) (some ⟨w9.heap.size, 0, none⟩) 2 (w9.heap.size + 1) 2 [l, putL i 4] T1 (by have := HT1.out.1; simp [this]) hP rfl (by omega) (by omega) (by have := HT1.out.2.1; omega)
      (with_reducible refine hcat.mono ?_)
      rintro e w11 ⟨A11, c11, rfl, hF11, hb11⟩
      have hK11 := kbl hK10 (by have := HW.out; omega) hb11
      have hz11 := hb11.size
      have hOo11 := hOo10.below hb11 (Nat.le_refl _)
      have HW11 : Hid (B ≤ w11.heap.size) := Lib.hid (by have := HW.out; omega)
      rw [HT1.out.2.1]
      clear hcat hP hK10 hOo10 hb11 hz10 hz11
      go_wp2_with fail
      (with_reducible refine (rsums_1 T1 A11 (n + 4) c11 w11.heap.size w11 hF11.rd (Nat.le_refl _) HT1.out.2.1 (by omega) hT1b).mono ?_)
      rintro e w12 ⟨A12, c12, rfl, hF12, hb12⟩
      have hK12 := kbl hK11 HW11.out hb12
      have hOo12 := hOo11.below hb12 (Nat.le_refl _)
      have hR12 := hF12.rd
      have HW12 : Hid (B ≤ w12.heap.size) := Lib.hid (by have := HW11.out; have := hb12.size; omega)
      clear hF11 hF12 hb12 hOo11 hK11
      go_wp2_with (at_builtin; refine wpList_app rfl (.tmp 32) (.tmp 40) 22 5 .u8 1 rfl Tryd.underlying22 inf_u8 hOo12 hR12 rfl rfl (sumK_len 1 T1) (maskN 1 l (i + 1)) HT1.out.2.2 (64 * (i + 1)) (maskN_l_1 _ _) (by omega) (by omega) HW12.out ?_; intro Ab cb wb hOb hgb hfb)
      go_roundg (m + 64 - 64 * (i + 1))
      case measure => have := HGK.out; omega
      case rel => exact ⟨i + 1, Ab, cb, rfl, by go_num, by omega, rfl, hOb, hK12.grew hOo12 hgb (Nat.le_refl _) HW12.out⟩
    · have hltI : ¬ (64 : Int) * (i : Int) < (m : Int) := by omega
      have hs2 : ∀ wx, (Instr.slice 22 (.slice Ao (64 * i) co) none (some (.int .i64 (m : Int))) none).run Tryd.prog wx = .ok (.slice Ao m co) wx := fun wx => run_slice_0v 22 5 Tryd.underlying22 (by kernel_rfl) Ao _ co m (by omega) .i64 wx
      have hfin := maskK_1 l m i (by omega) hi
      have hF := hO.frs.take m
      rw [hfin] at hF
      clear hfin hO
      go_wp2_with fail
      go_ret
      exact ⟨_, _, rfl, by rw [HB.out]; exact hF, by rw [HB.out]; exact hK.below⟩
end Go.Proofs.YteidkdpfjponfaaDoor
