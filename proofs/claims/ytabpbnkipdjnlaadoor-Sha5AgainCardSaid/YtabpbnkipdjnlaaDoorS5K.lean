/- Sha5Again, walked. Conditions: the text reads as bytes, the two bytes are bytes; the tables. -/
import Derived.Test.YtabpbnkipdjnlaaDoorS5J
import Derived.HandedShaped
namespace Go.Proofs.YtabpbnkipdjnlaaDoor
open Go.RowKit
set_option linter.unusedVariables false
set_option linter.unusedSimpArgs false

theorem k5_nz : ∀ p, p < 80 → gt k5L p ≠ 0 := by decide +kernel
theorem k5_inj : ∀ p, p < 80 → ∀ q, q < 80 → gt k5L p = gt k5L q → p = q := by decide +kernel
theorem kk_p (p : Nat) (v : Int) (w : World) (ht : Tab w 2 .u64 k5L) (hp : p < 80) (hv : gt k5L p = v) :
    Calls Tryd.prog 32 #[.int .i64 (p : Int)] w fun e w' => e = .returned (.int .u64 v) ∧ w' = w := by
  have h := kk_any (p : Int) w ht
  rw [if_pos (by omega), Int.toNat_natCast, hv] at h
  exact h
theorem kk_0 (t : Int) (w : World) (ht : Tab w 2 .u64 k5L) (hp : 80 ≤ t) :
    Calls Tryd.prog 32 #[.int .i64 t] w fun e w' => e = .returned (.int .u64 0) ∧ w' = w := by
  have h := kk_any t w ht
  rw [if_neg (by omega)] at h
  exact h
def JA (wD : World) (D g : Nat) (gk : Nat) (v : Value) (w : World) : Prop :=
  ∃ i : Nat, v = .int .i64 i ∧ gk = 64 - i ∧ i ≤ 64 ∧ (∀ j, j < 64 → (∃ u, w.cell? ⟨g, j, none⟩ = some (.int .u8 u)) ∧ w.frozen? ⟨g, j, none⟩ = false) ∧ Kept D (fun b => b = g) wD w

set_option maxRecDepth 100000 in
set_option maxHeartbeats 1000000 in
theorem again5_walk (l : List Int) (A : Option Addr) (c : Nat) (x y : Int) (w : World) (hr : Rd w w.heap.size .u8 A l) (hlc : l.length ≤ c) (hc : c ≤ 9223372036854775807) (hby : Bys l) (hx : B8 x) (hy : B8 y) (ht : S5Tab w) :
    Calls Tryd.prog 14 #[.slice A l.length c, .int .u8 x, .int .u8 y] w fun e w' => e = .returned (.bool true) ∧ Below w.heap.size w w' := by
  have hz := World.block_lt_of_cell? w _ (ht.1 0 (by decide))
  have hz0 := World.block_lt_of_cell? w _ (ht.2 0 (by decide))
  have hz2 : 2 < w.heap.size := hz
  have hz3 : 3 < w.heap.size := hz0
  obtain ⟨hx0, hx1⟩ := hx
  obtain ⟨hy0, hy1⟩ := hy
  obtain ⟨xn, rfl⟩ : ∃ n : Nat, x = n := ⟨x.toNat, by omega⟩
  obtain ⟨yn, rfl⟩ : ∃ n : Nat, y = n := ⟨y.toNat, by omega⟩
  clear hz hz0 hx0 hy0
  go_enter Tryd.func14, Tryd.ntmps14
  go_wp2_with fail
  (with_reducible refine (awake03_any w ht).mono ?_)
  rintro e w1 ⟨rfl, hb1⟩
  have hr1 := hr.below hb1
  have hs1 := hb1.size
  by_cases h3 : 1000 < l.length
  · have h3I : (1000 : Int) < l.length := by omega
    go_wp2_with fail
    go_ret
    exact ⟨rfl, hb1⟩
  · have h3I : ¬ (1000 : Int) < l.length := by omega
    have hmx : (200000000 : Nat) ≤ maxLen := by decide
    have hll : l.length ≤ 1000 := by omega
    have ht1 := ht.below hb1 hz2 hz3
    go_wp2_with fail
    (with_reducible refine (one5_any l A c w.heap.size l.length w1 hr1 hs1 (by omega) rfl hlc hby ht1 (by omega) (by omega)).mono ?_)
    rintro e w2 ⟨A2, c2, rfl, hF2, hb2⟩
    have hs2 := hb2.size
    have hK2 := (Kept.of_below (S := fun _ => False) hb1).trans (S' := fun _ => False) (Kept.of_below hb2) hs1 (fun _ _ h => h)
    obtain ⟨s, hs⟩ : ∃ s, sum5 l = s := ⟨_, rfl⟩
    have hsl : s.length = 64 := by rw [← hs, sum5_len]
    rw [hs] at hF2
    obtain ⟨g, rfl, hg1, hg2, hgc⟩ := hF2.at_ (by omega)
    have hcp := hF2.cap
    rw [hsl] at hcp
    have hRs := hF2.rd
    have HS := Lib.hid hs
    have hOe := Own.lit (b := w2.heap.size) (e := 5) (k := .u8) w2 [] (by omega) (Nat.zero_le _)
    have hRe := hRs.alloc (Nat.le_refl _) (.cells #[] 5)
    have hKe : Kept w2.heap.size (fun _ => False) w2 (w2.alloc (.cells #[] 5)) := (Kept.refl _ _ _).alloc _ (Nat.le_refl _)
    clear hs hF2 hb2 hr1 h3 h3I
    go_wp2_with (at_builtin; (refine wpList_app rfl _ _ 36 5 .u8 1 rfl Tryd.underlying36 inf_u8 hOe hRe rfl rfl hsl s rfl 64 hsl (by omega) (by omega) (by simp) ?_; intro Aa ca wa hOa hga hfa))
    have hKa := hKe.grew hOe hga (by omega) (by simp)
    have hsa := hKa.size
    have hgca : ∀ j, j < 64 → (∃ u, wa.cell? ⟨g, j, none⟩ = some (.int .u8 u)) ∧ wa.frozen? ⟨g, j, none⟩ = false := fun j hj =>
      ⟨⟨gt s j, (World.cell?_of_block (a := ⟨g, j, none⟩) (hKa.block g hg2 (fun h => h))).trans (hgc j (by omega)).1⟩, (frozen_of_block (hKa.block g hg2 (fun h => h))).trans (hgc j (by omega)).2⟩
    have hKwa := hK2.trans (S' := fun _ => False) hKa (by omega) (fun _ _ h => h)
    clear hOe hRe hKe hga hfa hgc hRs hKa hK2 ht1
    go_loopg [9] 64 (fun gk v wr => JA wa wa.heap.size g gk v wr)
    case atStart => exact ⟨0, rfl, rfl, by omega, hgca, Kept.refl _ _ _⟩
    case round =>
      clear hgca
      obtain ⟨i, rfl, hgk, hi, hcs, hK⟩ := hrel
      have HGK := Lib.hid hgk
      clear hgk
      by_cases hlt : i < 64
      · have hltI : (i : Int) < 64 := by omega
        obtain ⟨⟨u, hcl⟩, hfl⟩ := hcs i hlt
        have HCS := Lib.hid hcs
        clear hcs
        go_wp2_with fail
        go_roundg (64 - (i + 1))
        case measure => have := HGK.out; omega
        case rel =>
          refine ⟨i + 1, by go_num, rfl, by omega, fun j hj => ⟨someInt_setCell (HCS.out j hj).1 _ _, ?_⟩, hK.set g i _ (.inr rfl)⟩
          rw [World.frozen?_setCell]
          exact (HCS.out j hj).2
      · have hltI : ¬ (i : Int) < 64 := by omega
        have hKw := hKwa.trans (S' := fun b => b = g) hK (by omega) (fun k hk e => by omega)
        have hOa4 := hOa.kept hK (Nat.le_refl _) (fun g' e h => by have := (hOa.lt g' e).1; omega)
        have hr4 := hr.kept hKw (Nat.le_refl _) (fun _ _ h => h)
        have ht4 := ht.kept hKw hz2 hz3 (fun h => h) (fun h => h)
        have hs4 := hKw.size
        obtain ⟨p, hp⟩ : ∃ p, xn % 80 = p := ⟨_, rfl⟩
        obtain ⟨q, hq⟩ : ∃ q, yn % 80 = q := ⟨_, rfl⟩
        have hp1 : p < 80 := by omega
        have hq1 : q < 80 := by omega
        have hpI : ((xn : Int) % 80) = (p : Int) := by omega
        have hqI : ((yn : Int) % 80) = (q : Int) := by omega
        clear hcs hK hOa hKwa HGK hp hq
        go_wp2_with fail
        (with_reducible refine (one5_any l A c w.heap.size l.length wr hr4 hs4 (by omega) rfl hlc hby ht4 (by omega) (by omega)).mono ?_)
        rintro e w5 ⟨A5, c5, rfl, hF5, hb5⟩
        rw [HS.out] at hF5
        have hOa5 := hOa4.below hb5 (Nat.le_refl _)
        have hs5 := hb5.size
        have hK5 := hKw.trans (S' := fun _ => False) (Kept.of_below hb5) hs4 (fun _ _ h => h)
        clear hb5 hOa4 hr4 ht4 hKw
        go_wp2_with fail
        (with_reducible refine (same5_true w5 A5 Aa s 64 c5 ca w5.heap.size w5.heap.size hF5.rd hOa5.rd hsl (by omega)).mono ?_)
        rintro e w6 ⟨rfl, qd, rfl⟩
        have hK6 := hK5.drewN qd
        have ht6 := ht.kept hK6 hz2 hz3 (fun h => h) (fun h => h)
        have hT6 : Tab (w5.drewN qd) 2 .u64 k5L := And.left ht6
        generalize w5.drewN qd = w6 at hK6 hT6 ⊢
        have hKnz := k5_nz p hp1
        have hbel := hK6.below
        obtain ⟨kp, hkp⟩ : ∃ v, gt k5L p = v := ⟨_, rfl⟩
        obtain ⟨kq, hkq⟩ : ∃ v, gt k5L q = v := ⟨_, rfl⟩
        have hP := kk_p p kp w6 hT6 hp1 hkp
        have hQ := kk_p q kq w6 hT6 hq1 hkq
        have h80 := kk_0 (80 + (xn : Int)) w6 hT6 (by omega)
        rw [hkp] at hKnz
        have hkb : (kp != 0) = true := by simpa using hKnz
        clear hK5 hK6 ht6 hOa5 hF5 hT6
        by_cases hpq : p = q
        · subst hpq
          have hkk : kp = kq := by rw [← hkp, hkq]
          subst hkk
          clear hkp hkq
          go_wp2_with fail
          (with_reducible refine hP.mono ?_)
          rintro e w7 ⟨rfl, h7⟩
          rw [h7]
          clear h7
          go_wp2_with fail
          (with_reducible refine hP.mono ?_)
          rintro e w8 ⟨rfl, h8⟩
          rw [h8]
          clear h8
          go_wp2_with fail
          (with_reducible refine hP.mono ?_)
          rintro e w9 ⟨rfl, h9⟩
          rw [h9]
          clear h9
          go_wp2_with fail
          (with_reducible refine h80.mono ?_)
          rintro e wA ⟨rfl, hA⟩
          rw [hA]
          clear hA
          go_wp2_with fail
          go_ret
          exact ⟨rfl, hbel⟩
        · have hkk : ¬ kp = kq := fun h => hpq (k5_inj p hp1 q hq1 (by rw [hkp, hkq]; exact h))
          have hpqI : ¬ (p : Int) = (q : Int) := by omega
          have hk1 : (kp == kq) = false := by simpa using hkk
          have hk2 : ((p : Int) == (q : Int)) = false := by simp; omega
          clear hkp hkq hpq
          go_wp2_with fail
          (with_reducible refine hP.mono ?_)
          rintro e w7 ⟨rfl, h7⟩
          rw [h7]
          clear h7
          go_wp2_with fail
          (with_reducible refine hP.mono ?_)
          rintro e w8 ⟨rfl, h8⟩
          rw [h8]
          clear h8
          go_wp2_with fail
          (with_reducible refine hQ.mono ?_)
          rintro e w9 ⟨rfl, h9⟩
          rw [h9]
          clear h9
          go_wp2_with fail
          (with_reducible refine h80.mono ?_)
          rintro e wA ⟨rfl, hA⟩
          rw [hA]
          clear hA
          go_wp2_with fail
          go_ret
          exact ⟨rfl, hbel⟩

end Go.Proofs.YtabpbnkipdjnlaaDoor
