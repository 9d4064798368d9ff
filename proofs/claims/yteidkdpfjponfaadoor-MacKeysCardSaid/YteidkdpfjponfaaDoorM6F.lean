/- Layer 6: what is asked before a statement, walked. Conditions: the tables. -/
import Derived.Test.YteidkdpfjponfaaDoorM6E
import Derived.Test.YteidkdpfjponfaaDoorZA
import Derived.Lib.SlBytesConst
import Derived.Lib.SmallJoins
namespace Go.Proofs.YteidkdpfjponfaaDoor
open Go.RowKit
set_option linter.unusedVariables false
set_option linter.unusedSimpArgs false
theorem Rd.marked6 (w : World) (T : Nat) (k : IntKind) (l : List Int) (fr : Nat × Nat) : Rd (w.alloc (.cells (U k l) T fr)) (w.heap.size + 1) k (some ⟨w.heap.size, 0, none⟩) l := fun hn =>
  ⟨_, rfl, Nat.lt_succ_self _, fun i hi => by rw [plus_head, World.cell?_alloc_mark w (U k l) T fr i, U_get k l i hi]⟩
theorem same_is (w : World) (A A' : Option Addr) (l : List Int) (n c c' B B' : Nat) (hA : Rd w B .u8 A l) (hB : Rd w B' .u8 A' l) (hn : l.length = n) (hm : n ≤ 9223372036854775807) :
    Calls Tryd.prog 15 #[.slice A n c, .slice A' n c'] w fun e w' => e = .returned (.bool true) ∧ ∃ q, w' = w.drewN q := by
  subst hn
  have h := same_any w A A' l l c c' B B' hA hB hm
  rwa [decide_eq_true rfl] at h
theorem bdr {B : Nat} {w w' : World} (h : Below B w w') (n : Nat) : Below B w (w'.drewN n) := ⟨h.os, h.tape, h.output, h.size, h.block⟩
theorem cdr {w : World} {a : Addr} {v : Option Value} (h : w.cell? a = v) (n : Nat) : (w.drewN n).cell? a = v := h
theorem al_le (w : World) (x : Obj) : w.heap.size ≤ (w.alloc x).heap.size := by simp
theorem ldr {w : World} {b : Nat} (h : b < w.heap.size) (n : Nat) : b < (w.drewN n).heap.size := h
theorem mac_0 (key l : List Int) (A A' : Option Addr) (n c n' c' : Nat) (w : World) (hk : Rd w w.heap.size .u8 A key) (hkn : key.length = n) (hkl : n ≤ 1000000) (hkc : n ≤ c) (hkb : Bys key) (hr : Rd w w.heap.size .u8 A' l) (hn : l.length = n') (hl : n' ≤ 900000) (hc : n' ≤ c') (hb : Bys l) (hT : MTb w) :
    Calls Tryd.prog 30 #[.int .i64 0, .slice A n c, .slice A' n' c'] w (OutP w (macK 0 key l) 32) := by
  by_cases h : 64 < n
  · exact macL_0 key l A A' n c n' c' w hk hkn hkl hkc hkb hr hn hl hc hb hT h
  · exact macS_0 key l A A' n c n' c' w hk hkn hkl hkc hkb hr hn hl hc hb hT h
theorem rmac_0 (key l : List Int) (A A' : Option Addr) (n c n' c' : Nat) (w : World) (hk : Rd w w.heap.size .u8 A key) (hkn : key.length = n) (hkl : n ≤ 1000000) (hkb : Bys key) (hr : Rd w w.heap.size .u8 A' l) (hn : l.length = n') (hl : n' ≤ 900000) (hb : Bys l) :
    Calls Tryd.prog 31 #[.int .i64 0, .slice A n c, .slice A' n' c'] w (OutP w (macK 0 key l) 32) := by
  by_cases h : 64 < n
  · exact rmacL_0 key l A A' n c n' c' w hk hkn hkl hkb hr hn hl hb h
  · exact rmacS_0 key l A A' n c n' c' w hk hkn hkl hkb hr hn hl hb h
theorem maskI_0 (l : List Int) (A : Option Addr) (n c m : Nat) (M : Int) (w : World) (hM : M = m) (hr : Rd w w.heap.size .u8 A l) (hn : l.length = n) (hl : n ≤ 900000) (hc : n ≤ c) (hb : Bys l) (hT : MTb w) (hm : m ≤ 65536) :
    Calls Tryd.prog 32 #[.int .i64 0, .slice A n c, .int .i64 M] w (OutP w (maskK 0 l m) m) := by subst hM; exact mask_0 l A n c m w hr hn hl hc hb hT hm
theorem macK_len_0 (key l : List Int) : (macK 0 key l).length = 32 := sumK_len 0 _
theorem macK_B_0 (key l : List Int) : Bys (macK 0 key l) := sumK_B 0 _
theorem mac_1 (key l : List Int) (A A' : Option Addr) (n c n' c' : Nat) (w : World) (hk : Rd w w.heap.size .u8 A key) (hkn : key.length = n) (hkl : n ≤ 1000000) (hkc : n ≤ c) (hkb : Bys key) (hr : Rd w w.heap.size .u8 A' l) (hn : l.length = n') (hl : n' ≤ 900000) (hc : n' ≤ c') (hb : Bys l) (hT : MTb w) :
    Calls Tryd.prog 30 #[.int .i64 1, .slice A n c, .slice A' n' c'] w (OutP w (macK 1 key l) 64) := by
  by_cases h : 128 < n
  · exact macL_1 key l A A' n c n' c' w hk hkn hkl hkc hkb hr hn hl hc hb hT h
  · exact macS_1 key l A A' n c n' c' w hk hkn hkl hkc hkb hr hn hl hc hb hT h
theorem rmac_1 (key l : List Int) (A A' : Option Addr) (n c n' c' : Nat) (w : World) (hk : Rd w w.heap.size .u8 A key) (hkn : key.length = n) (hkl : n ≤ 1000000) (hkb : Bys key) (hr : Rd w w.heap.size .u8 A' l) (hn : l.length = n') (hl : n' ≤ 900000) (hb : Bys l) :
    Calls Tryd.prog 31 #[.int .i64 1, .slice A n c, .slice A' n' c'] w (OutP w (macK 1 key l) 64) := by
  by_cases h : 128 < n
  · exact rmacL_1 key l A A' n c n' c' w hk hkn hkl hkb hr hn hl hb h
  · exact rmacS_1 key l A A' n c n' c' w hk hkn hkl hkb hr hn hl hb h
theorem maskI_1 (l : List Int) (A : Option Addr) (n c m : Nat) (M : Int) (w : World) (hM : M = m) (hr : Rd w w.heap.size .u8 A l) (hn : l.length = n) (hl : n ≤ 900000) (hc : n ≤ c) (hb : Bys l) (hT : MTb w) (hm : m ≤ 65536) :
    Calls Tryd.prog 32 #[.int .i64 1, .slice A n c, .int .i64 M] w (OutP w (maskK 1 l m) m) := by subst hM; exact mask_1 l A n c m w hr hn hl hc hb hT hm
theorem macK_len_1 (key l : List Int) : (macK 1 key l).length = 64 := sumK_len 1 _
theorem macK_B_1 (key l : List Int) : Bys (macK 1 key l) := sumK_B 1 _
theorem b6 (l : List Int) (h : (l.all fun x => decide (0 ≤ x ∧ x < 256)) = true) : Bys l := fun x hx => by
  have := List.all_eq_true.1 h x hx
  simpa [B8] using this
theorem abc6 : gt (sumK 0 [97, 98, 99]) 0 = 186 := by decide +kernel
theorem maskK_len_any (l : List Int) : (maskK 0 l 40).length = 40 := maskK_len_0 l 40
set_option maxRecDepth 100000 in
set_option maxHeartbeats 2000000 in
theorem awake06_any (w : World) (hT : MTb w) :
    Calls Tryd.prog 25 #[] w fun e w' => e = .returned (.bool true) ∧ Below w.heap.size w w' := by
  have kc := fun (w : World) (C : Array Value) (n c : Nat) => Lib.run_convert_bytes_const (P := Tryd.prog) w 22 5 C n c Tryd.underlying22 Tryd.underlying5
  have kc2 := fun (w : World) (D C : Array Value) (fr : Nat × Nat) (n c : Nat) => kc (w.alloc (.cells D 5 fr)) C n c
  have hzz : ∀ (w : World) (o : Obj), (w.alloc o).heap.size = w.heap.size + 1 := fun w o => by simp
  simp only [hzz] at kc2
  clear hzz
  go_enter Tryd.func25, Tryd.ntmps25
  go_wp2_with fail
  (with_reducible refine (sizes_1 w).mono ?_)
  rintro e v1 ⟨rfl, hb1⟩
  have hK1 := bnx (Below.refl w.heap.size w) hb1 (Below.refl w.heap.size w).size
  clear hb1
  go_wp2_with fail
  have hz2 : (v1.alloc (.cells (U .u8 [97, 98, 99]) 5 (3, 4))).heap.size = v1.heap.size + 1 := by simp
  have hRa : Rd (v1.alloc (.cells (U .u8 [97, 98, 99]) 5 (3, 4))) (v1.alloc (.cells (U .u8 [97, 98, 99]) 5 (3, 4))).heap.size .u8 (some ⟨v1.heap.size, 0, none⟩) [97, 98, 99] := (Rd.marked6 v1 5 .u8 [97, 98, 99] (3, 4)).more (by simp)
  have hK2 := bal hK1 hK1.size (.cells (U .u8 [97, 98, 99]) 5 (3, 4))
  have hBa_2 := Below.refl (v1.alloc (.cells (U .u8 [97, 98, 99]) 5 (3, 4))).heap.size (v1.alloc (.cells (U .u8 [97, 98, 99]) 5 (3, 4)))
  obtain ⟨v2, hv2⟩ : ∃ v, v1.alloc (.cells (U .u8 [97, 98, 99]) 5 (3, 4)) = v := ⟨_, rfl⟩
  rw [hv2] at hK2 hRa hBa_2 hz2
  clear hK1
  change Calls _ _ _ (v1.alloc (.cells (U .u8 [97, 98, 99]) 5 (3, 4))) _
  rw [hv2]
  clear hv2
  (with_reducible refine (sums_0 [97, 98, 99] (some ⟨v1.heap.size, 0, none⟩) 3 3 v2 (hRa.bel hBa_2) rfl (by decide) (Nat.le_refl _) (b6 _ (by decide)) (hT.below hK2 (Nat.le_refl _))).mono ?_)
  rintro e v3 ⟨A3, c3, rfl, hF3, hb3⟩
  have hK3 := bnx hK2 hb3 hK2.size
  have hBa_3 := bnx hBa_2 hb3 hBa_2.size
  obtain ⟨g, rfl, hg1, hg2, hgc⟩ := hF3.at_ (by rw [sumK_len]; decide)
  have hcx := (hgc 0 (by rw [sumK_len]; decide)).1
  rw [abc6] at hcx
  clear hK2 hBa_2 hb3 hF3 hgc hg1
  go_wp2_with fail
  have hz4 : (v3.alloc (.cells (U .u8 [107, 101, 121]) 5 (3, 4))).heap.size = v3.heap.size + 1 := by simp
  have hRk : Rd (v3.alloc (.cells (U .u8 [107, 101, 121]) 5 (3, 4))) (v3.alloc (.cells (U .u8 [107, 101, 121]) 5 (3, 4))).heap.size .u8 (some ⟨v3.heap.size, 0, none⟩) [107, 101, 121] := (Rd.marked6 v3 5 .u8 [107, 101, 121] (3, 4)).more (by simp)
  have hK4 := bal hK3 hK3.size (.cells (U .u8 [107, 101, 121]) 5 (3, 4))
  have hcx_4 := cell_al hcx hg2 (.cells (U .u8 [107, 101, 121]) 5 (3, 4))
  have hlx_4 := Nat.lt_of_lt_of_le hg2 (al_le v3 (.cells (U .u8 [107, 101, 121]) 5 (3, 4)))
  have hBk_4 := Below.refl (v3.alloc (.cells (U .u8 [107, 101, 121]) 5 (3, 4))).heap.size (v3.alloc (.cells (U .u8 [107, 101, 121]) 5 (3, 4)))
  obtain ⟨v4, hv4⟩ : ∃ v, v3.alloc (.cells (U .u8 [107, 101, 121]) 5 (3, 4)) = v := ⟨_, rfl⟩
  rw [hv4] at hK4 hcx_4 hlx_4 hRk hBk_4 hz4
  clear hK3 hcx hg2
  have hz5 : (v4.alloc (.cells (U .u8 [97, 98, 99]) 5 (3, 4))).heap.size = v4.heap.size + 1 := by simp
  have hRb : Rd (v4.alloc (.cells (U .u8 [97, 98, 99]) 5 (3, 4))) (v4.alloc (.cells (U .u8 [97, 98, 99]) 5 (3, 4))).heap.size .u8 (some ⟨v4.heap.size, 0, none⟩) [97, 98, 99] := (Rd.marked6 v4 5 .u8 [97, 98, 99] (3, 4)).more (by simp)
  have hK5 := bal hK4 hK4.size (.cells (U .u8 [97, 98, 99]) 5 (3, 4))
  have hBk_5 := bal hBk_4 hBk_4.size (.cells (U .u8 [97, 98, 99]) 5 (3, 4))
  have hcx_5 := cell_al hcx_4 hlx_4 (.cells (U .u8 [97, 98, 99]) 5 (3, 4))
  have hlx_5 := Nat.lt_of_lt_of_le hlx_4 (al_le v4 (.cells (U .u8 [97, 98, 99]) 5 (3, 4)))
  have hBb_5 := Below.refl (v4.alloc (.cells (U .u8 [97, 98, 99]) 5 (3, 4))).heap.size (v4.alloc (.cells (U .u8 [97, 98, 99]) 5 (3, 4)))
  obtain ⟨v5, hv5⟩ : ∃ v, v4.alloc (.cells (U .u8 [97, 98, 99]) 5 (3, 4)) = v := ⟨_, rfl⟩
  rw [hv5] at hK5 hBk_5 hcx_5 hlx_5 hRb hBb_5 hz5
  clear hK4 hBk_4 hcx_4 hlx_4
  change Calls _ _ _ ((v3.alloc (.cells (U .u8 [107, 101, 121]) 5 (3, 4))).alloc (.cells (U .u8 [97, 98, 99]) 5 (3, 4))) _
  rw [hv4]
  rw [hv5]
  clear hv4
  clear hv5
  (with_reducible refine (mac_0 [107, 101, 121] [97, 98, 99] (some ⟨v3.heap.size, 0, none⟩) (some ⟨v3.heap.size + 1, 0, none⟩) 3 3 3 3 v5 (hRk.bel hBk_5) rfl (by decide) (Nat.le_refl _) (b6 _ (by decide)) (by have h := (hRb.bel hBb_5); rw [hz4] at h; exact h) rfl (by decide) (Nat.le_refl _) (b6 _ (by decide)) (hT.below hK5 (Nat.le_refl _))).mono ?_)
  rintro e v6 ⟨A6, c6, rfl, hF6, hb6⟩
  have hK6 := bnx hK5 hb6 hK5.size
  have hBk_6 := bnx hBk_5 hb6 hBk_5.size
  have hBb_6 := bnx hBb_5 hb6 hBb_5.size
  have hcx_6 := cell_bel hcx_5 hb6 hlx_5
  have hlx_6 := Nat.lt_of_lt_of_le hlx_5 hb6.size
  have hRY := hF6.rd
  have hBY_6 := Below.refl v6.heap.size v6
  clear hK5 hBk_5 hBb_5 hcx_5 hlx_5 hb6 hF6
  go_wp2_with fail
  have hz7 : (v6.alloc (.cells (U .u8 [97, 98, 99]) 5 (3, 4))).heap.size = v6.heap.size + 1 := by simp
  have hRm : Rd (v6.alloc (.cells (U .u8 [97, 98, 99]) 5 (3, 4))) (v6.alloc (.cells (U .u8 [97, 98, 99]) 5 (3, 4))).heap.size .u8 (some ⟨v6.heap.size, 0, none⟩) [97, 98, 99] := (Rd.marked6 v6 5 .u8 [97, 98, 99] (3, 4)).more (by simp)
  have hK7 := bal hK6 hK6.size (.cells (U .u8 [97, 98, 99]) 5 (3, 4))
  have hBY_7 := bal hBY_6 hBY_6.size (.cells (U .u8 [97, 98, 99]) 5 (3, 4))
  have hcx_7 := cell_al hcx_6 hlx_6 (.cells (U .u8 [97, 98, 99]) 5 (3, 4))
  have hlx_7 := Nat.lt_of_lt_of_le hlx_6 (al_le v6 (.cells (U .u8 [97, 98, 99]) 5 (3, 4)))
  have hBm_7 := Below.refl (v6.alloc (.cells (U .u8 [97, 98, 99]) 5 (3, 4))).heap.size (v6.alloc (.cells (U .u8 [97, 98, 99]) 5 (3, 4)))
  obtain ⟨v7, hv7⟩ : ∃ v, v6.alloc (.cells (U .u8 [97, 98, 99]) 5 (3, 4)) = v := ⟨_, rfl⟩
  rw [hv7] at hK7 hBY_7 hcx_7 hlx_7 hRm hBm_7 hz7
  clear hK6 hBY_6 hcx_6 hlx_6
  change Calls _ _ _ (v6.alloc (.cells (U .u8 [97, 98, 99]) 5 (3, 4))) _
  rw [hv7]
  clear hv7
  (with_reducible refine (maskI_0 [97, 98, 99] (some ⟨v6.heap.size, 0, none⟩) 3 3 40 40 v7 rfl (hRm.bel hBm_7) rfl (by decide) (Nat.le_refl _) (b6 _ (by decide)) (hT.below hK7 (Nat.le_refl _)) (by decide)).mono ?_)
  rintro e v8 ⟨A8, c8, rfl, hF8, hb8⟩
  have hK8 := bnx hK7 hb8 hK7.size
  have hBY_8 := bnx hBY_7 hb8 hBY_7.size
  have hBm_8 := bnx hBm_7 hb8 hBm_7.size
  have hcx_8 := cell_bel hcx_7 hb8 hlx_7
  have hlx_8 := Nat.lt_of_lt_of_le hlx_7 hb8.size
  clear hK7 hBY_7 hBm_7 hcx_7 hlx_7 hb8 hF8
  go_wp2_with fail
  have hz9 : (v8.alloc (.cells (U .u8 [107, 101, 121]) 5 (3, 4))).heap.size = v8.heap.size + 1 := by simp
  have hRp : Rd (v8.alloc (.cells (U .u8 [107, 101, 121]) 5 (3, 4))) (v8.alloc (.cells (U .u8 [107, 101, 121]) 5 (3, 4))).heap.size .u8 (some ⟨v8.heap.size, 0, none⟩) [107, 101, 121] := (Rd.marked6 v8 5 .u8 [107, 101, 121] (3, 4)).more (by simp)
  have hK9 := bal hK8 hK8.size (.cells (U .u8 [107, 101, 121]) 5 (3, 4))
  have hBY_9 := bal hBY_8 hBY_8.size (.cells (U .u8 [107, 101, 121]) 5 (3, 4))
  have hcx_9 := cell_al hcx_8 hlx_8 (.cells (U .u8 [107, 101, 121]) 5 (3, 4))
  have hlx_9 := Nat.lt_of_lt_of_le hlx_8 (al_le v8 (.cells (U .u8 [107, 101, 121]) 5 (3, 4)))
  have hBp_9 := Below.refl (v8.alloc (.cells (U .u8 [107, 101, 121]) 5 (3, 4))).heap.size (v8.alloc (.cells (U .u8 [107, 101, 121]) 5 (3, 4)))
  obtain ⟨v9, hv9⟩ : ∃ v, v8.alloc (.cells (U .u8 [107, 101, 121]) 5 (3, 4)) = v := ⟨_, rfl⟩
  rw [hv9] at hK9 hBY_9 hcx_9 hlx_9 hRp hBp_9 hz9
  clear hK8 hBY_8 hcx_8 hlx_8
  have hz10 : (v9.alloc (.cells (U .u8 [97, 98, 99]) 5 (3, 4))).heap.size = v9.heap.size + 1 := by simp
  have hRq : Rd (v9.alloc (.cells (U .u8 [97, 98, 99]) 5 (3, 4))) (v9.alloc (.cells (U .u8 [97, 98, 99]) 5 (3, 4))).heap.size .u8 (some ⟨v9.heap.size, 0, none⟩) [97, 98, 99] := (Rd.marked6 v9 5 .u8 [97, 98, 99] (3, 4)).more (by simp)
  have hK10 := bal hK9 hK9.size (.cells (U .u8 [97, 98, 99]) 5 (3, 4))
  have hBY_10 := bal hBY_9 hBY_9.size (.cells (U .u8 [97, 98, 99]) 5 (3, 4))
  have hBp_10 := bal hBp_9 hBp_9.size (.cells (U .u8 [97, 98, 99]) 5 (3, 4))
  have hcx_10 := cell_al hcx_9 hlx_9 (.cells (U .u8 [97, 98, 99]) 5 (3, 4))
  have hlx_10 := Nat.lt_of_lt_of_le hlx_9 (al_le v9 (.cells (U .u8 [97, 98, 99]) 5 (3, 4)))
  have hBq_10 := Below.refl (v9.alloc (.cells (U .u8 [97, 98, 99]) 5 (3, 4))).heap.size (v9.alloc (.cells (U .u8 [97, 98, 99]) 5 (3, 4)))
  obtain ⟨v10, hv10⟩ : ∃ v, v9.alloc (.cells (U .u8 [97, 98, 99]) 5 (3, 4)) = v := ⟨_, rfl⟩
  rw [hv10] at hK10 hBY_10 hBp_10 hcx_10 hlx_10 hRq hBq_10 hz10
  clear hK9 hBY_9 hBp_9 hcx_9 hlx_9
  change Calls _ _ _ ((v8.alloc (.cells (U .u8 [107, 101, 121]) 5 (3, 4))).alloc (.cells (U .u8 [97, 98, 99]) 5 (3, 4))) _
  rw [hv9]
  rw [hv10]
  clear hv9
  clear hv10
  (with_reducible refine (rmac_0 [107, 101, 121] [97, 98, 99] (some ⟨v8.heap.size, 0, none⟩) (some ⟨v8.heap.size + 1, 0, none⟩) 3 3 3 3 v10 (hRp.bel hBp_10) rfl (by decide) (b6 _ (by decide)) (by have h := (hRq.bel hBq_10); rw [hz9] at h; exact h) rfl (by decide) (b6 _ (by decide))).mono ?_)
  rintro e v11 ⟨A11, c11, rfl, hF11, hb11⟩
  have hK11 := bnx hK10 hb11 hK10.size
  have hBY_11 := bnx hBY_10 hb11 hBY_10.size
  have hBp_11 := bnx hBp_10 hb11 hBp_10.size
  have hBq_11 := bnx hBq_10 hb11 hBq_10.size
  have hcx_11 := cell_bel hcx_10 hb11 hlx_10
  have hlx_11 := Nat.lt_of_lt_of_le hlx_10 hb11.size
  have hRZ := hF11.rd
  have hBZ_11 := Below.refl v11.heap.size v11
  clear hK10 hBY_10 hBp_10 hBq_10 hcx_10 hlx_10 hb11 hF11
  go_wp2_with fail
  (with_reducible refine (same_is v11 A6 A11 (macK 0 [107, 101, 121] [97, 98, 99]) 32 c6 c11 v11.heap.size v11.heap.size (hRY.bel hBY_11) (hRZ.bel hBZ_11) (macK_len_0 _ _) (by omega)).mono ?_)
  rintro e v12 ⟨rfl, q12, rfl⟩
  have hK12 := bdr hK11 q12
  have hBY_12 := bdr hBY_11 q12
  have hBZ_12 := bdr hBZ_11 q12
  have hcx_12 := cdr hcx_11 q12
  have hlx_12 := ldr hlx_11 q12
  generalize v11.drewN q12 = v12 at hK12 hBY_12 hBZ_12 hcx_12 hlx_12 ⊢
  clear hK11 hBY_11 hBZ_11 hcx_11 hlx_11
  go_wp2_with fail
  (with_reducible refine (mac_no 2 _ _ v12 (.inr (Int.le_refl _))).mono ?_)
  rintro e v13 ⟨rfl, hb13⟩
  have hK13 := bnx hK12 hb13 hK12.size
  have hBY_13 := bnx hBY_12 hb13 hBY_12.size
  have hBZ_13 := bnx hBZ_12 hb13 hBZ_12.size
  have hcx_13 := cell_bel hcx_12 hb13 hlx_12
  have hlx_13 := Nat.lt_of_lt_of_le hlx_12 hb13.size
  clear hK12 hBY_12 hBZ_12 hcx_12 hlx_12 hb13
  go_wp2_with fail
  go_ret
  exact ⟨rfl, hK13⟩
end Go.Proofs.YteidkdpfjponfaaDoor
