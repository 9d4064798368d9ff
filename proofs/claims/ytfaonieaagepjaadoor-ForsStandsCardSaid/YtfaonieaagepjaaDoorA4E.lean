/- Layer 14: rows of 32 bytes, exclusive or; are all as long; what tells keys and masks. Conditions: small lengths; the tables. -/
import Derived.Test.YtfaonieaagepjaaDoorA4D
import Derived.Test.YtfaonieaagepjaaDoorZA
import Derived.Deep.LoopGhost
namespace Go.Proofs.YtfaonieaagepjaaDoor
open Go.RowKit
set_option linter.unusedVariables false
set_option linter.unusedSimpArgs false
theorem xor32_any (l m : List Int) (A A' : Option Addr) (c c' : Nat) (w : World) (hA : Rd w w.heap.size .u8 A l) (hB : Rd w w.heap.size .u8 A' m) (hn : l.length = 32) (hn' : m.length = 32) (hc : 32 ≤ c) (hbl : Bys l) (hbm : Bys m) :
    Calls Tryd.prog 64 #[.slice A 32 c, .slice A' 32 c'] w (OutP w (xorL l m) 32) := by
  refine (xor_any l m A A' 32 32 c c' w hA hB hn hn' hc (fun h => ?_) (by decide) hbl hbm (by decide)).mono ?_
  · obtain ⟨ad, h1, _⟩ := hA.at_ (i := 0) (by omega)
    rw [h] at h1; cases h1
  · rintro e w1 ⟨A1, c1, rfl, hO, hb⟩
    have e32 : (xorL l m).length = 32 := by rw [xorL_len]; omega
    rw [e32] at hO ⊢
    exact ⟨A1, c1, rfl, hO.frs, hb⟩
theorem xorL32_len (l m : List Int) (h : l.length = 32) (h' : m.length = 32) : (xorL l m).length = 32 := by rw [xorL_len]; omega
theorem xorL_step (l m : List Int) (i : Nat) (hl : i < l.length) (hm : i < m.length) {x y : Int} (hx : gt l i = x) (hy : gt m i = y) : xorL (l.take i) (m.take i) ++ [bits .xor .u8 x y] = xorL (l.take (i + 1)) (m.take (i + 1)) := by
  have h1 : (l.take i).length = i := by rw [List.length_take]; omega
  have h2 : (m.take i).length = i := by rw [List.length_take]; omega
  have h3 : (l.take (i + 1)).length = i + 1 := by rw [List.length_take]; omega
  have h4 : (m.take (i + 1)).length = i + 1 := by rw [List.length_take]; omega
  have e1 : (xorL (l.take i) (m.take i) ++ [bits .xor .u8 x y]).length = i + 1 := by rw [List.length_append, xorL_len, h1, h2]; simp
  refine ext_gt _ _ (by rw [e1, xorL_len, h3, h4]; simp) (fun j hj => ?_)
  rw [e1] at hj
  rw [gt_xorL _ _ j (by rw [h3, h4]; omega), gt_take _ _ _ (by omega), gt_take _ _ _ (by omega)]
  rcases Nat.lt_or_ge j i with h | h
  · rw [gt_append_left _ _ _ (by rw [xorL_len, h1, h2]; omega), gt_xorL _ _ j (by rw [h1, h2]; omega), gt_take _ _ _ h, gt_take _ _ _ h]
  · obtain rfl : j = i := by omega
    rw [gt_append_right _ _ _ (by rw [xorL_len, h1, h2]; omega), xorL_len, h1, h2, Nat.min_self, Nat.sub_self, hx, hy]
    rfl
/-- What a call has made, to be appended to. -/
def OutO (w : World) (L : List Int) (n : Nat) (e : Ending) (w' : World) : Prop :=
  ∃ A c, e = .returned (.slice A n c) ∧ Own w' w.heap.size 5 .u8 (.slice A n c) L ∧ Below w.heap.size w w'
theorem OutO.out {w : World} {L : List Int} {n : Nat} {e : Ending} {w' : World} (h : OutO w L n e w') : OutP w L n e w' := by
  obtain ⟨A, c, h1, h2, h3⟩ := h
  exact ⟨A, c, h1, h2.frs, h3⟩
def XJ (w0 : World) (B : Nat) (l m : List Int) (gk : Nat) (v x : Value) (w : World) : Prop :=
  ∃ (i : Nat) (A : Option Addr) (c : Nat), v = .slice A i c ∧ x = .int .i64 i ∧ i ≤ 32 ∧ gk = 32 - i ∧ Own w B 5 .u8 (.slice A i c) (xorL (l.take i) (m.take i)) ∧ Kept B (fun _ => False) w0 w
set_option maxRecDepth 100000 in
set_option maxHeartbeats 2000000 in
theorem rxorO_any (l m : List Int) (A A' : Option Addr) (n c n' c' : Nat) (w : World) (h1 : Rd w w.heap.size .u8 A l) (hn : l.length = n) (hl : 32 ≤ n) (h2 : Rd w w.heap.size .u8 A' m) (hn' : m.length = n') (hm : 32 ≤ n') :
    Calls Tryd.prog 65 #[.slice A n c, .slice A' n' c'] w (OutO w (xorL (l.take 32) (m.take 32)) 32) := by
  have hmx : (200000000 : Nat) ≤ maxLen := by decide
  obtain ⟨B, hB⟩ : ∃ B, w.heap.size = B := ⟨_, rfl⟩
  have HB := Lib.hid hB
  have hK0 := Kept.refl B (fun _ => False) w
  rw [hB] at h1 h2
  clear hB
  go_enter Tryd.func65, Tryd.ntmps65
  go_wp2_with fail
  go_loopg [5, 6] 32 (fun gk v x wr => XJ w B l m gk v x wr)
  case atStart => exact ⟨0, none, 0, rfl, rfl, Nat.zero_le _, rfl, Own.nil _ _ _ _, hK0⟩
  case round =>
    clear hK0
    obtain ⟨wq, rfl⟩ : ∃ wq : World, wq = wr := ⟨_, rfl⟩
    obtain ⟨i, Ao, co, rfl, rfl, hi, hgk, hO, hK⟩ := hrel
    have HGK := Lib.hid hgk
    have hwl : B ≤ wq.heap.size := by have := hK.size; have := HB.out; omega
    clear hgk
    by_cases hlt : i < 32
    · have hltI : (i : Int) < 32 := by omega
      have hnI : (i : Int) < (n : Int) := by omega
      have hnI' : (i : Int) < (n' : Int) := by omega
      have hr1 := h1.kept hK (Nat.le_refl _) (fun _ _ h => h)
      have hr2 := h2.kept hK (Nat.le_refl _) (fun _ _ h => h)
      obtain ⟨ad, hAd, hab, hc1⟩ := hr1.at_ (i := i) (by omega)
      obtain ⟨bd, hBd, hbb, hc2⟩ := hr2.at_ (i := i) (by omega)
      obtain rfl := hAd
      obtain rfl := hBd
      obtain ⟨x, hx⟩ : ∃ x, gt l i = x := ⟨_, rfl⟩
      obtain ⟨y, hy⟩ : ∃ y, gt m i = y := ⟨_, rfl⟩
      have hst := xorL_step l m i (by omega) (by omega) hx hy
      rw [hx] at hc1
      rw [hy] at hc2
      have HST := Lib.hid hst
      clear hx hy hst hr1 hr2
      go_upto_region 5 with fail
      refine Lx.enter (fun w' => w'.cell? (ad.add i) = some (.int .u8 x) ∧ w'.cell? (bd.add i) = some (.int .u8 y)) 13 (by kernel_rfl) (by kernel_rfl) ⟨hc1, hc2⟩ ?_
      (refine Lx.val 0 ?_ rfl (by kernel_rfl) (by kernel_rfl) (by kernel_rfl) (fun _ _ _ h => h) (by kernel_rfl) ?_ ?_; rotate_left 1; focus (intro w hw; go_simp; with_reducible rfl)); (try simp (config := {maxSteps := 2000000}) only [Act.put, List.getElem_toArray, List.getElem_cons_succ, List.getElem_cons_zero, List.setIfInBounds_toArray, List.set_cons_zero, List.set_cons_succ])
      (refine Lx.val 1 ?_ rfl (by kernel_rfl) (by kernel_rfl) (by kernel_rfl) (fun _ _ _ h => h) (by kernel_rfl) ?_ ?_; rotate_left 1; focus (intro w hw; go_simp; with_reducible rfl)); (try simp (config := {maxSteps := 2000000}) only [Act.put, List.getElem_toArray, List.getElem_cons_succ, List.getElem_cons_zero, List.setIfInBounds_toArray, List.set_cons_zero, List.set_cons_succ])
      (refine Lx.val 2 ?_ rfl (by kernel_rfl) (by kernel_rfl) (by kernel_rfl) (fun _ _ _ h => h) (by kernel_rfl) ?_ ?_; rotate_left 1; focus (intro w hw; go_simp; with_reducible rfl)); (try simp (config := {maxSteps := 2000000}) only [Act.put, List.getElem_toArray, List.getElem_cons_succ, List.getElem_cons_zero, List.setIfInBounds_toArray, List.set_cons_zero, List.set_cons_succ])
      (refine Lx.val 3 ?_ rfl (by kernel_rfl) (by kernel_rfl) (by kernel_rfl) (fun _ _ _ h => h) (by kernel_rfl) ?_ ?_; rotate_left 1; focus (intro w hw; go_simp; with_reducible rfl)); (try simp (config := {maxSteps := 2000000}) only [Act.put, List.getElem_toArray, List.getElem_cons_succ, List.getElem_cons_zero, List.setIfInBounds_toArray, List.set_cons_zero, List.set_cons_succ])
      (refine Lx.val 4 ?_ rfl (by kernel_rfl) (by kernel_rfl) (by kernel_rfl) (fun _ _ _ h => h) (by kernel_rfl) ?_ ?_; rotate_left 1; focus (intro w hw; have hcell := hw.1; go_simp; with_reducible rfl)); (try simp (config := {maxSteps := 2000000}) only [Act.put, List.getElem_toArray, List.getElem_cons_succ, List.getElem_cons_zero, List.setIfInBounds_toArray, List.set_cons_zero, List.set_cons_succ])
      (refine Lx.val 5 ?_ rfl (by kernel_rfl) (by kernel_rfl) (by kernel_rfl) (fun _ _ _ h => h) (by kernel_rfl) ?_ ?_; rotate_left 1; focus (intro w hw; go_simp; with_reducible rfl)); (try simp (config := {maxSteps := 2000000}) only [Act.put, List.getElem_toArray, List.getElem_cons_succ, List.getElem_cons_zero, List.setIfInBounds_toArray, List.set_cons_zero, List.set_cons_succ])
      (refine Lx.val 6 ?_ rfl (by kernel_rfl) (by kernel_rfl) (by kernel_rfl) (fun _ _ _ h => h) (by kernel_rfl) ?_ ?_; rotate_left 1; focus (intro w hw; go_simp; with_reducible rfl)); (try simp (config := {maxSteps := 2000000}) only [Act.put, List.getElem_toArray, List.getElem_cons_succ, List.getElem_cons_zero, List.setIfInBounds_toArray, List.set_cons_zero, List.set_cons_succ])
      (refine Lx.val 7 ?_ rfl (by kernel_rfl) (by kernel_rfl) (by kernel_rfl) (fun _ _ _ h => h) (by kernel_rfl) ?_ ?_; rotate_left 1; focus (intro w hw; go_simp; with_reducible rfl)); (try simp (config := {maxSteps := 2000000}) only [Act.put, List.getElem_toArray, List.getElem_cons_succ, List.getElem_cons_zero, List.setIfInBounds_toArray, List.set_cons_zero, List.set_cons_succ])
      (refine Lx.val 8 ?_ rfl (by kernel_rfl) (by kernel_rfl) (by kernel_rfl) (fun _ _ _ h => h) (by kernel_rfl) ?_ ?_; rotate_left 1; focus (intro w hw; have hcell := hw.2; go_simp; with_reducible rfl)); (try simp (config := {maxSteps := 2000000}) only [Act.put, List.getElem_toArray, List.getElem_cons_succ, List.getElem_cons_zero, List.setIfInBounds_toArray, List.set_cons_zero, List.set_cons_succ])
      (refine Lx.val 9 ?_ rfl (by kernel_rfl) (by kernel_rfl) (by kernel_rfl) (fun _ _ _ h => h) (by kernel_rfl) ?_ ?_; rotate_left 1; focus (intro w hw; go_simp; with_reducible rfl)); (try simp (config := {maxSteps := 2000000}) only [Act.put, List.getElem_toArray, List.getElem_cons_succ, List.getElem_cons_zero, List.setIfInBounds_toArray, List.set_cons_zero, List.set_cons_succ])
      have hO2 := hO.drew.alloc (.cells (U .u8 [bits .xor .u8 x y]) 5)
      have hK2 := hK.drew.alloc (.cells (U .u8 [bits .xor .u8 x y]) 5) hwl
      have hN2 : Rd (wq.drew.alloc (.cells (U .u8 [bits .xor .u8 x y]) 5)) (wq.heap.size + 1) .u8 (some ⟨wq.heap.size, 0, none⟩) [bits .xor .u8 x y] := Rd.of_arr (Arr.new wq.drew 5 .u8 [bits .xor .u8 x y]) (by simp)
      have hz2 : (wq.drew.alloc (.cells (U .u8 [bits .xor .u8 x y]) 5)).heap.size = wq.heap.size + 1 := by simp
      have hd1 : (wq.drew.alloc (.cells (U .u8 [bits .xor .u8 x y]) 5)).cell? (ad.add i) = some (.int .u8 x) := (World.cell?_of_block (Below.heap_alloc wq.drew _ _ (by rw [block_plus]; show ad.block < wq.heap.size; omega))).trans hc1
      have hd2 : (wq.drew.alloc (.cells (U .u8 [bits .xor .u8 x y]) 5)).cell? (bd.add i) = some (.int .u8 y) := (World.cell?_of_block (Below.heap_alloc wq.drew _ _ (by rw [block_plus]; show bd.block < wq.heap.size; omega))).trans hc2
      refine Lx.made (w' := wq.drew.alloc (.cells (U .u8 [bits .xor .u8 x y]) 5)) 10 (.slice (some ⟨wq.heap.size, 0, none⟩) 1 1) rfl (by kernel_rfl) (by kernel_rfl) (by kernel_rfl) (fun _ => ⟨hd1, hd2⟩) ?_
      (try simp only [Act.put, List.getElem_toArray, List.getElem_cons_succ, List.getElem_cons_zero, List.setIfInBounds_toArray, List.set_cons_zero, List.set_cons_succ])
      generalize wq.drew.alloc (.cells (U .u8 [bits .xor .u8 x y]) 5) = w2 at hO2 hK2 hN2 hz2 hd1 hd2 ⊢
      refine Lx.app (w := w2) (c := 1) 11 rfl (by kernel_rfl) rfl (.tmp 11) (.tmp 21) 24 5 .u8 1 rfl Tryd.underlying24 inf_u8 hO2 hN2 (by kernel_rfl) (by kernel_rfl) rfl (xorL (l.take (i + 1)) (m.take (i + 1))) HST.out (i + 1) (by rw [xorL_len, List.length_take, List.length_take]; omega) (by omega) (by omega) (by omega) ?_
      intro hS2 Ab cb wb hOb hgb hfb
      have hKb := hK2.grew hO2 hgb (Nat.le_refl _) (by omega)
      have hob : ∀ g, (Value.slice Ao i co).ownBlock = some g → B ≤ g := fun g e => (hO2.lt g e).1
      refine ⟨⟨(World.cell?_of_block (hgb.block _ (by rw [block_plus]; omega) (fun e => by have := hob _ e.symm; rw [block_plus] at this; omega))).trans hd1, (World.cell?_of_block (hgb.block _ (by rw [block_plus]; omega) (fun e => by have := hob _ e.symm; rw [block_plus] at this; omega))).trans hd2⟩, ?_⟩
      (try simp only [Act.put, List.getElem_toArray, List.getElem_cons_succ, List.getElem_cons_zero, List.setIfInBounds_toArray, List.set_cons_zero, List.set_cons_succ])
      (refine Lx.val 12 ?_ rfl (by kernel_rfl) (by kernel_rfl) (by kernel_rfl) (fun _ _ _ h => h) (by kernel_rfl) ?_ ?_; rotate_left 1; focus (intro w hw; go_simp; with_reducible rfl)); (try simp (config := {maxSteps := 2000000}) only [Act.put, List.getElem_toArray, List.getElem_cons_succ, List.getElem_cons_zero, List.setIfInBounds_toArray, List.set_cons_zero, List.set_cons_succ])
      refine Lx.done (by kernel_rfl) ?_
      intro _
      clear hO2 hK2 hN2 hd1 hd2 hS2 hgb hfb hob hc1 hc2 hO hK
      go_wp2_with fail
      go_roundg (32 - (i + 1))
      case measure => have := HGK.out; omega
      case rel => exact ⟨i + 1, Ab, cb, rfl, by go_num, by omega, rfl, hOb, hKb⟩
    · have hltI : ¬ (i : Int) < 32 := by omega
      obtain rfl : i = 32 := by omega
      go_wp2_with fail
      go_ret
      exact ⟨_, _, rfl, by rw [HB.out]; exact hO, by rw [HB.out]; exact hK.below⟩
theorem rxor_any (l m : List Int) (A A' : Option Addr) (n c n' c' : Nat) (w : World) (h1 : Rd w w.heap.size .u8 A l) (hn : l.length = n) (hl : 32 ≤ n) (h2 : Rd w w.heap.size .u8 A' m) (hn' : m.length = n') (hm : 32 ≤ n') :
    Calls Tryd.prog 65 #[.slice A n c, .slice A' n' c'] w (OutP w (xorL (l.take 32) (m.take 32)) 32) := (rxorO_any l m A A' n c n' c' w h1 hn hl h2 hn' hm).mono fun e w' h => h.out
set_option maxRecDepth 100000 in
set_option maxHeartbeats 2000000 in
theorem turnedO_any (l m : List Int) (A A' : Option Addr) (n c n' c' : Nat) (w : World) (h1 : Rd w w.heap.size .u8 A l) (hn : l.length = n) (hl : 32 ≤ n) (h2 : Rd w w.heap.size .u8 A' m) (hn' : m.length = n') (hm : 32 ≤ n') :
    Calls Tryd.prog 44 #[.slice A n c, .slice A' n' c'] w (OutO w (xorL (l.take 32) (m.take 32)) 32) := by
  have hmx : (200000000 : Nat) ≤ maxLen := by decide
  obtain ⟨B, hB⟩ : ∃ B, w.heap.size = B := ⟨_, rfl⟩
  have HB := Lib.hid hB
  have hK0 := Kept.refl B (fun _ => False) w
  rw [hB] at h1 h2
  clear hB
  go_enter Tryd.func44, Tryd.ntmps44
  go_wp2_with fail
  go_loopg [5, 6] 32 (fun gk v x wr => XJ w B l m gk v x wr)
  case atStart => exact ⟨0, none, 0, rfl, rfl, Nat.zero_le _, rfl, Own.nil _ _ _ _, hK0⟩
  case round =>
    clear hK0
    obtain ⟨wq, rfl⟩ : ∃ wq : World, wq = wr := ⟨_, rfl⟩
    obtain ⟨i, Ao, co, rfl, rfl, hi, hgk, hO, hK⟩ := hrel
    have HGK := Lib.hid hgk
    have hwl : B ≤ wq.heap.size := by have := hK.size; have := HB.out; omega
    clear hgk
    by_cases hlt : i < 32
    · have hltI : (i : Int) < 32 := by omega
      have hnI : (i : Int) < (n : Int) := by omega
      have hnI' : (i : Int) < (n' : Int) := by omega
      have hr1 := h1.kept hK (Nat.le_refl _) (fun _ _ h => h)
      have hr2 := h2.kept hK (Nat.le_refl _) (fun _ _ h => h)
      obtain ⟨ad, hAd, hab, hc1⟩ := hr1.at_ (i := i) (by omega)
      obtain ⟨bd, hBd, hbb, hc2⟩ := hr2.at_ (i := i) (by omega)
      obtain rfl := hAd
      obtain rfl := hBd
      obtain ⟨x, hx⟩ : ∃ x, gt l i = x := ⟨_, rfl⟩
      obtain ⟨y, hy⟩ : ∃ y, gt m i = y := ⟨_, rfl⟩
      have hst := xorL_step l m i (by omega) (by omega) hx hy
      rw [hx] at hc1
      rw [hy] at hc2
      have HST := Lib.hid hst
      clear hx hy hst hr1 hr2
      go_upto_region 5 with fail
      refine Lx.enter (fun w' => w'.cell? (ad.add i) = some (.int .u8 x) ∧ w'.cell? (bd.add i) = some (.int .u8 y)) 13 (by kernel_rfl) (by kernel_rfl) ⟨hc1, hc2⟩ ?_
      (refine Lx.val 0 ?_ rfl (by kernel_rfl) (by kernel_rfl) (by kernel_rfl) (fun _ _ _ h => h) (by kernel_rfl) ?_ ?_; rotate_left 1; focus (intro w hw; go_simp; with_reducible rfl)); (try simp (config := {maxSteps := 2000000}) only [Act.put, List.getElem_toArray, List.getElem_cons_succ, List.getElem_cons_zero, List.setIfInBounds_toArray, List.set_cons_zero, List.set_cons_succ])
      (refine Lx.val 1 ?_ rfl (by kernel_rfl) (by kernel_rfl) (by kernel_rfl) (fun _ _ _ h => h) (by kernel_rfl) ?_ ?_; rotate_left 1; focus (intro w hw; go_simp; with_reducible rfl)); (try simp (config := {maxSteps := 2000000}) only [Act.put, List.getElem_toArray, List.getElem_cons_succ, List.getElem_cons_zero, List.setIfInBounds_toArray, List.set_cons_zero, List.set_cons_succ])
      (refine Lx.val 2 ?_ rfl (by kernel_rfl) (by kernel_rfl) (by kernel_rfl) (fun _ _ _ h => h) (by kernel_rfl) ?_ ?_; rotate_left 1; focus (intro w hw; go_simp; with_reducible rfl)); (try simp (config := {maxSteps := 2000000}) only [Act.put, List.getElem_toArray, List.getElem_cons_succ, List.getElem_cons_zero, List.setIfInBounds_toArray, List.set_cons_zero, List.set_cons_succ])
      (refine Lx.val 3 ?_ rfl (by kernel_rfl) (by kernel_rfl) (by kernel_rfl) (fun _ _ _ h => h) (by kernel_rfl) ?_ ?_; rotate_left 1; focus (intro w hw; go_simp; with_reducible rfl)); (try simp (config := {maxSteps := 2000000}) only [Act.put, List.getElem_toArray, List.getElem_cons_succ, List.getElem_cons_zero, List.setIfInBounds_toArray, List.set_cons_zero, List.set_cons_succ])
      (refine Lx.val 4 ?_ rfl (by kernel_rfl) (by kernel_rfl) (by kernel_rfl) (fun _ _ _ h => h) (by kernel_rfl) ?_ ?_; rotate_left 1; focus (intro w hw; have hcell := hw.1; go_simp; with_reducible rfl)); (try simp (config := {maxSteps := 2000000}) only [Act.put, List.getElem_toArray, List.getElem_cons_succ, List.getElem_cons_zero, List.setIfInBounds_toArray, List.set_cons_zero, List.set_cons_succ])
      (refine Lx.val 5 ?_ rfl (by kernel_rfl) (by kernel_rfl) (by kernel_rfl) (fun _ _ _ h => h) (by kernel_rfl) ?_ ?_; rotate_left 1; focus (intro w hw; go_simp; with_reducible rfl)); (try simp (config := {maxSteps := 2000000}) only [Act.put, List.getElem_toArray, List.getElem_cons_succ, List.getElem_cons_zero, List.setIfInBounds_toArray, List.set_cons_zero, List.set_cons_succ])
      (refine Lx.val 6 ?_ rfl (by kernel_rfl) (by kernel_rfl) (by kernel_rfl) (fun _ _ _ h => h) (by kernel_rfl) ?_ ?_; rotate_left 1; focus (intro w hw; go_simp; with_reducible rfl)); (try simp (config := {maxSteps := 2000000}) only [Act.put, List.getElem_toArray, List.getElem_cons_succ, List.getElem_cons_zero, List.setIfInBounds_toArray, List.set_cons_zero, List.set_cons_succ])
      (refine Lx.val 7 ?_ rfl (by kernel_rfl) (by kernel_rfl) (by kernel_rfl) (fun _ _ _ h => h) (by kernel_rfl) ?_ ?_; rotate_left 1; focus (intro w hw; go_simp; with_reducible rfl)); (try simp (config := {maxSteps := 2000000}) only [Act.put, List.getElem_toArray, List.getElem_cons_succ, List.getElem_cons_zero, List.setIfInBounds_toArray, List.set_cons_zero, List.set_cons_succ])
      (refine Lx.val 8 ?_ rfl (by kernel_rfl) (by kernel_rfl) (by kernel_rfl) (fun _ _ _ h => h) (by kernel_rfl) ?_ ?_; rotate_left 1; focus (intro w hw; have hcell := hw.2; go_simp; with_reducible rfl)); (try simp (config := {maxSteps := 2000000}) only [Act.put, List.getElem_toArray, List.getElem_cons_succ, List.getElem_cons_zero, List.setIfInBounds_toArray, List.set_cons_zero, List.set_cons_succ])
      (refine Lx.val 9 ?_ rfl (by kernel_rfl) (by kernel_rfl) (by kernel_rfl) (fun _ _ _ h => h) (by kernel_rfl) ?_ ?_; rotate_left 1; focus (intro w hw; go_simp; with_reducible rfl)); (try simp (config := {maxSteps := 2000000}) only [Act.put, List.getElem_toArray, List.getElem_cons_succ, List.getElem_cons_zero, List.setIfInBounds_toArray, List.set_cons_zero, List.set_cons_succ])
      have hO2 := hO.drew.alloc (.cells (U .u8 [bits .xor .u8 x y]) 5)
      have hK2 := hK.drew.alloc (.cells (U .u8 [bits .xor .u8 x y]) 5) hwl
      have hN2 : Rd (wq.drew.alloc (.cells (U .u8 [bits .xor .u8 x y]) 5)) (wq.heap.size + 1) .u8 (some ⟨wq.heap.size, 0, none⟩) [bits .xor .u8 x y] := Rd.of_arr (Arr.new wq.drew 5 .u8 [bits .xor .u8 x y]) (by simp)
      have hz2 : (wq.drew.alloc (.cells (U .u8 [bits .xor .u8 x y]) 5)).heap.size = wq.heap.size + 1 := by simp
      have hd1 : (wq.drew.alloc (.cells (U .u8 [bits .xor .u8 x y]) 5)).cell? (ad.add i) = some (.int .u8 x) := (World.cell?_of_block (Below.heap_alloc wq.drew _ _ (by rw [block_plus]; show ad.block < wq.heap.size; omega))).trans hc1
      have hd2 : (wq.drew.alloc (.cells (U .u8 [bits .xor .u8 x y]) 5)).cell? (bd.add i) = some (.int .u8 y) := (World.cell?_of_block (Below.heap_alloc wq.drew _ _ (by rw [block_plus]; show bd.block < wq.heap.size; omega))).trans hc2
      refine Lx.made (w' := wq.drew.alloc (.cells (U .u8 [bits .xor .u8 x y]) 5)) 10 (.slice (some ⟨wq.heap.size, 0, none⟩) 1 1) rfl (by kernel_rfl) (by kernel_rfl) (by kernel_rfl) (fun _ => ⟨hd1, hd2⟩) ?_
      (try simp only [Act.put, List.getElem_toArray, List.getElem_cons_succ, List.getElem_cons_zero, List.setIfInBounds_toArray, List.set_cons_zero, List.set_cons_succ])
      generalize wq.drew.alloc (.cells (U .u8 [bits .xor .u8 x y]) 5) = w2 at hO2 hK2 hN2 hz2 hd1 hd2 ⊢
      refine Lx.app (w := w2) (c := 1) 11 rfl (by kernel_rfl) rfl (.tmp 11) (.tmp 21) 24 5 .u8 1 rfl Tryd.underlying24 inf_u8 hO2 hN2 (by kernel_rfl) (by kernel_rfl) rfl (xorL (l.take (i + 1)) (m.take (i + 1))) HST.out (i + 1) (by rw [xorL_len, List.length_take, List.length_take]; omega) (by omega) (by omega) (by omega) ?_
      intro hS2 Ab cb wb hOb hgb hfb
      have hKb := hK2.grew hO2 hgb (Nat.le_refl _) (by omega)
      have hob : ∀ g, (Value.slice Ao i co).ownBlock = some g → B ≤ g := fun g e => (hO2.lt g e).1
      refine ⟨⟨(World.cell?_of_block (hgb.block _ (by rw [block_plus]; omega) (fun e => by have := hob _ e.symm; rw [block_plus] at this; omega))).trans hd1, (World.cell?_of_block (hgb.block _ (by rw [block_plus]; omega) (fun e => by have := hob _ e.symm; rw [block_plus] at this; omega))).trans hd2⟩, ?_⟩
      (try simp only [Act.put, List.getElem_toArray, List.getElem_cons_succ, List.getElem_cons_zero, List.setIfInBounds_toArray, List.set_cons_zero, List.set_cons_succ])
      (refine Lx.val 12 ?_ rfl (by kernel_rfl) (by kernel_rfl) (by kernel_rfl) (fun _ _ _ h => h) (by kernel_rfl) ?_ ?_; rotate_left 1; focus (intro w hw; go_simp; with_reducible rfl)); (try simp (config := {maxSteps := 2000000}) only [Act.put, List.getElem_toArray, List.getElem_cons_succ, List.getElem_cons_zero, List.setIfInBounds_toArray, List.set_cons_zero, List.set_cons_succ])
      refine Lx.done (by kernel_rfl) ?_
      intro _
      clear hO2 hK2 hN2 hd1 hd2 hS2 hgb hfb hob hc1 hc2 hO hK
      go_wp2_with fail
      go_roundg (32 - (i + 1))
      case measure => have := HGK.out; omega
      case rel => exact ⟨i + 1, Ab, cb, rfl, by go_num, by omega, rfl, hOb, hKb⟩
    · have hltI : ¬ (i : Int) < 32 := by omega
      obtain rfl : i = 32 := by omega
      go_wp2_with fail
      go_ret
      exact ⟨_, _, rfl, by rw [HB.out]; exact hO, by rw [HB.out]; exact hK.below⟩
theorem turned_any (l m : List Int) (A A' : Option Addr) (n c n' c' : Nat) (w : World) (h1 : Rd w w.heap.size .u8 A l) (hn : l.length = n) (hl : 32 ≤ n) (h2 : Rd w w.heap.size .u8 A' m) (hn' : m.length = n') (hm : 32 ≤ n') :
    Calls Tryd.prog 44 #[.slice A n c, .slice A' n' c'] w (OutP w (xorL (l.take 32) (m.take 32)) 32) := (turnedO_any l m A A' n c n' c' w h1 hn hl h2 hn' hm).mono fun e w' h => h.out
end Go.Proofs.YtfaonieaagepjaaDoor
