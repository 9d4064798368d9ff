/- Sha5Parts, walked. Conditions: the parts read as bytes, 100000000 of them at most in all; the tables. -/
import Derived.Test.YtabpbnkipdjnlaaDoorS5H
namespace Go.Proofs.YtabpbnkipdjnlaaDoor
open Go.RowKit
set_option linter.unusedVariables false
set_option linter.unusedSimpArgs false

def PJ (w0 : World) (B : Nat) (ls : List (List Int)) (gk : Nat) (v x : Value) (w : World) : Prop :=
  ∃ (i n : Nat) (A : Option Addr) (c : Nat), v = .slice A n c ∧ x = .int .i64 i ∧ i ≤ ls.length ∧ gk = ls.length - i ∧ Own w B 5 .u8 (.slice A n c) (ls.take i).flatten ∧ Kept B (fun _ => False) w0 w

set_option maxRecDepth 100000 in
set_option maxHeartbeats 1000000 in
theorem parts5_walk (ls : List (List Int)) (A : Option Addr) (c BB n : Nat) (w : World) (hp : Parts w BB A ls) (hn : ls.length = n) (hBB : BB ≤ w.heap.size) (hlc : n ≤ c) (hsum : ls.flatten.length ≤ 100000000) (hby : Bys ls.flatten) (ht : S5Tab w) :
    Calls Tryd.prog 12 #[.slice A n c] w fun e w' => e = .returned (.bool true) ∧ Below w.heap.size w w' := by
  have hz := World.block_lt_of_cell? w _ (ht.1 0 (by decide))
  have hz0 := World.block_lt_of_cell? w _ (ht.2 0 (by decide))
  have hz2 : 2 < w.heap.size := hz
  have hz3 : 3 < w.heap.size := hz0
  clear hz hz0
  obtain ⟨B, hB⟩ : ∃ B, w.heap.size = B := ⟨_, rfl⟩
  go_enter Tryd.func12, Tryd.ntmps12
  go_wp2_with fail
  (with_reducible refine (awake03_any w ht).mono ?_)
  rintro e w1 ⟨rfl, hb1⟩
  have hs1 := hb1.size
  by_cases h3 : 60 < n
  · have h3I : (60 : Int) < (n : Int) := by omega
    go_wp2_with fail
    go_ret
    exact ⟨rfl, hb1⟩
  · have h3I : ¬ (60 : Int) < (n : Int) := by omega
    have hmx : (200000000 : Nat) ≤ maxLen := by decide
    have hn60 : n ≤ 60 := by omega
    have hK1 : Kept B (fun _ => False) w w1 := by have := Kept.of_below (S := fun _ => False) hb1; rwa [hB] at this
    rw [hB] at hz2 hz3 hBB hs1
    have hfl : ∀ i, (ls.take i).flatten.length ≤ 100000000 := fun i => Nat.le_trans (flat_le ls i) hsum
    have HFL := Lib.hid hfl
    have HN := Lib.hid hn
    have HB := Lib.hid hB
    clear hfl hb1 h3 hB hn
    go_wp2_with fail
    go_loopg [3, 4] n (fun gk v x wr => PJ w B ls gk v x wr)
    case atStart => exact ⟨0, 0, none, 0, rfl, rfl, Nat.zero_le _, by rw [HN.out]; rfl, Own.nil _ _ _ _, hK1⟩
    case round =>
      clear hK1
      obtain ⟨i, k, A3, c3, rfl, rfl, hi, hgk, hO, hK⟩ := hrel
      rw [HN.out] at hi hgk
      have HGK := Lib.hid hgk
      have hwl : B ≤ wr.heap.size := by have := hK.size; have := HB.out; omega
      have hpr := hp.kept hK hBB (fun _ _ h => h)
      have hkl := hO.len.1
      clear hgk
      by_cases hlt : i < n
      · have hltI : (i : Int) < (n : Int) := by omega
        obtain ⟨ad, rfl, hab, hcell⟩ := hpr (by have := HN.out; omega)
        obtain ⟨v, hc1, Ai, ci, rfl, hRi, hci⟩ := hcell i (by have := HN.out; omega)
        obtain ⟨part, hpt⟩ : ∃ p, gl ls i = p := ⟨_, rfl⟩
        obtain ⟨acc, hacc⟩ : ∃ p, (ls.take i).flatten = p := ⟨_, rfl⟩
        have hnx : acc ++ part = (ls.take (i + 1)).flatten := by rw [gl_flat ls i (by have := HN.out; omega), hacc, hpt]
        obtain ⟨k2, hk2⟩ : ∃ k, part.length = k := ⟨_, rfl⟩
        have hnl : (ls.take (i + 1)).flatten.length = k + k2 := by rw [← hnx, List.length_append, hk2, hkl, hacc]
        have hkb : k + k2 ≤ 100000000 := by have := HFL.out (i + 1); omega
        rw [hpt] at hc1 hRi
        rw [hk2] at hc1
        rw [hacc] at hO
        have HNX := Lib.hid hnx
        have HNL := Lib.hid hnl
        have HK2 := Lib.hid hk2
        clear hpt hacc hnx hnl hk2 hkl hcell hci hpr
        go_wp2_with (at_builtin; refine wpList_app rfl (.tmp 17) (.tmp 21) 36 5 .u8 1 rfl Tryd.underlying36 inf_u8 hO hRi rfl rfl HK2.out (ls.take (i + 1)).flatten HNX.out (k + k2) HNL.out (by omega) (by omega) (by omega) ?_; intro Ab cb wb hOb hgb hfb)
        go_roundg (n - (i + 1))
        case measure => have := HGK.out; omega
        case rel => exact ⟨i + 1, k + k2, Ab, cb, rfl, by go_num, by rw [HN.out]; omega, by rw [HN.out], hOb, hK.grew hO hgb (Nat.le_refl _) hwl⟩
      · have hltI : ¬ (i : Int) < (n : Int) := by omega
        obtain ⟨L, hL⟩ : ∃ L, ls.flatten = L := ⟨_, rfl⟩
        have hall : (ls.take i).flatten = L := by rw [show i = ls.length by have := HN.out; omega, List.take_length, hL]
        rw [hall] at hO hkl
        have hLl : L.length ≤ 100000000 := by rw [← hL]; exact hsum
        have hLB : Bys L := by rw [← hL]; exact hby
        have hkb : k ≤ 100000000 := by omega
        have HL := Lib.hid hL
        have hlt2 := hO.len.2
        have htr := ht.kept hK hz2 hz3 (fun h => h) (fun h => h)
        clear hall hL HFL hsum hby
        by_cases h2k : 2000 < k
        · have h2I : (2000 : Int) < (k : Int) := by omega
          go_wp2_with fail
          go_ret
          exact ⟨rfl, by rw [HB.out]; exact hK.below⟩
        · have h2I : ¬ (2000 : Int) < (k : Int) := by omega
          go_wp2_with fail
          (with_reducible refine (parts_any wr A c BB n ls L HL.out hpr HN.out (by omega) hlc (by omega) hLl hLB htr (by omega) (by omega)).mono ?_)
          rintro e w3 ⟨A5, c5, rfl, hF5, hb5⟩
          have hs3 := hb5.size
          have hO3 := hO.below hb5 (Nat.le_refl _)
          have hK3 := hK.trans (S' := fun _ => False) (Kept.of_below hb5) hwl (fun _ _ h => h)
          have ht3 := ht.kept hK3 hz2 hz3 (fun h => h) (fun h => h)
          clear hpr htr hO hK
          go_wp2_with fail
          (with_reducible refine (rone_any L A3 c3 w3.heap.size L.length w3 (hO3.rd) (Nat.le_refl _) hLl rfl hLB).mono ?_)
          rintro e w4 ⟨A6, c6, rfl, hF6, hb6⟩
          have hF56 := hF5.below hb6 (Nat.le_refl _)
          have hO4 := hO3.below hb6 (Nat.le_refl _)
          have hs4 := hb6.size
          have hK4 := hK3.trans (S' := fun _ => False) (Kept.of_below hb6) (by omega) (fun _ _ h => h)
          clear hF5 hO3 hK3 hb6 ht3
          go_wp2_with fail
          (with_reducible refine (same5_true w4 A5 A6 (sum5 L) 64 c5 c6 w4.heap.size w4.heap.size hF56.rd hF6.rd (sum5_len _) (by omega)).mono ?_)
          rintro e w5 ⟨rfl, q, rfl⟩
          have hF57 := hF56.below (w' := w4.drewN q) (B := w4.heap.size) ((Kept.refl w4.heap.size (fun _ => False) w4).drewN q).below (Nat.le_refl _)
          have hO5 := hO4.drewN q
          have hK5 := hK4.drewN q
          have ht5 := ht.kept hK5 hz2 hz3 (fun h => h) (fun h => h)
          have hs5 := hK5.size
          have hw5 : B ≤ (w4.drewN q).heap.size := by have := HB.out; omega
          generalize w4.drewN q = w5 at hF57 hO5 hK5 ht5 hs5 hw5 ⊢
          clear hF56 hF6 hO4 hK4
          go_wp2_with fail
          (with_reducible refine (one5_any L A3 c3 w5.heap.size L.length w5 hO5.rd (Nat.le_refl _) hLl rfl (by omega) hLB ht5 (by omega) (by omega)).mono ?_)
          rintro e w6 ⟨A7, c7, rfl, hF7, hb7⟩
          have hF58 := hF57.below hb7 (Nat.le_refl _)
          have hK6 := hK5.trans (S' := fun _ => False) (Kept.of_below hb7) hw5 (fun _ _ h => h)
          clear hF57 hK5 hb7 ht5 hO5
          go_wp2_with fail
          (with_reducible refine (same5_true w6 A5 A7 (sum5 L) 64 c5 c7 w6.heap.size w6.heap.size hF58.rd hF7.rd (sum5_len _) (by omega)).mono ?_)
          rintro e w7 ⟨rfl, q7, rfl⟩
          go_wp2_with fail
          go_ret
          exact ⟨rfl, by rw [HB.out]; exact (hK6.drewN q7).below⟩

end Go.Proofs.YtabpbnkipdjnlaaDoor
