/- Sha2Again, walked. Conditions: the text reads as bytes; the tables. -/
import Derived.Test.YteidkdpfjponfaaDoorS2J
import Derived.HandedShaped
namespace Go.Proofs.YteidkdpfjponfaaDoor
open Go.RowKit
set_option linter.unusedVariables false
set_option linter.unusedSimpArgs false
def JA2 (wD : World) (D g : Nat) (gk : Nat) (v : Value) (w : World) : Prop :=
  ∃ i : Nat, v = .int .i64 i ∧ gk = 32 - i ∧ i ≤ 32 ∧ (∀ j, j < 32 → (∃ u, w.cell? ⟨g, j, none⟩ = some (.int .u8 u)) ∧ w.frozen? ⟨g, j, none⟩ = false) ∧ Kept D (fun b => b = g) wD w
set_option maxRecDepth 100000 in
set_option maxHeartbeats 4000000 in
theorem again2_walk (l : List Int) (A : Option Addr) (c : Nat) (w : World) (hr : Rd w w.heap.size .u8 A l) (hlc : l.length ≤ c) (hc : c ≤ 9223372036854775807) (hby : Bys l) (hT : S2Tb w) :
    Calls Tryd.prog 7 #[.slice A l.length c] w fun e w' => e = .returned (.bool true) ∧ Below w.heap.size w w' := by
  have hTl := hT.lt
  go_enter Tryd.func7, Tryd.ntmps7
  go_wp2_with fail
  (with_reducible refine (awake02_any w hT).mono ?_)
  rintro e w1 ⟨rfl, hb1⟩
  have hK1 := (Kept.refl w.heap.size (fun _ => False) w).bl (Nat.le_refl _) hb1
  have hs1 := hb1.size
  by_cases h3 : 2000 < l.length
  · have h3I : (2000 : Int) < l.length := by omega
    go_wp2_with fail
    go_ret
    exact ⟨rfl, hb1⟩
  · have h3I : ¬ (2000 : Int) < l.length := by omega
    have hmx : (200000000 : Nat) ≤ maxLen := by decide
    have hll : l.length ≤ 2000 := by omega
    go_wp2_with fail
    (with_reducible refine (new2_any w1 (hT.kept hK1 (Nat.le_refl _) (fun h => h) (fun h => h))).mono ?_)
    rintro e w2 ⟨rfl, hH2, hb2, hs2⟩
    have hK2 := hK1.bl hs1 hb2
    have HS2 := Lib.hid hs2
    obtain ⟨p, hp⟩ : ∃ p, w1.heap.size = p := ⟨_, rfl⟩
    rw [hp] at hH2 hs2 HS2 hs1 ⊢
    clear hb1 hb2 hK1 hs2 hp
    go_wp2_with fail
    have hs2 := HS2.out
    have hwr := write_any [] l A l.length c p w.heap.size 0 none w2 hH2 (by omega) (hr.kept hK2 (Nat.le_refl _) (fun _ _ h => h)) rfl (by simp; omega) hby (hT.kept hK2 (Nat.le_refl _) (fun h => h) (fun h => h)) ⟨by omega, by simp⟩ ⟨by omega, by simp⟩
    (with_reducible refine hwr.mono ?_)
    rintro e w3 ⟨rfl, a3, ho3, hH3, hk3⟩
    have hs3 := hk3.size
    have hK3 := hK2.wr (by omega) (by omega) (by simp) hk3
    have ha3 := ho3.ge (B := p) (by omega) (by simp)
    have hal3 := hH3.alt
    rw [List.nil_append, Nat.zero_add] at hH3
    have HS3 : Hid (p < w3.heap.size) := Lib.hid (by omega)
    clear hwr hk3 hH2 ho3 hK2 hs2 HS2 hs3
    go_wp2_with fail
    have hs3 := HS3.out
    (with_reducible refine (sum2_any l (sum2 l) p a3 w3 rfl hH3 (by omega) hby (hT.kept hK3 (Nat.le_refl _) (fun h => h) (fun h => h))).mono ?_)
    rintro e w4 ⟨A4, c4, rfl, hF4, hb4⟩
    obtain ⟨s, hs⟩ : ∃ s, sum2 l = s := ⟨_, rfl⟩
    have hsl : s.length = 32 := by rw [← hs, sum2_len]
    have HS := Lib.hid hs
    rw [hs] at hF4
    have hs4 := hb4.size
    have hK4 := hK3.bl (by omega) hb4
    have hH4 := hH3.below hb4 (Nat.le_refl _)
    obtain ⟨g, rfl, hg1, hg2, hgc⟩ := hF4.at_ (by omega)
    have hcp := hF4.cap
    rw [hsl] at hcp
    have hOe := Own.lit (b := w4.heap.size) (e := 5) (k := .u8) w4 [] (by omega) (Nat.zero_le _)
    have hRe := hF4.rd.alloc (Nat.le_refl _) (.cells #[] 5)
    have hKe : Kept w4.heap.size (fun _ => False) w4 (w4.alloc (.cells #[] 5)) := (Kept.refl _ _ _).alloc _ (Nat.le_refl _)
    clear hs hF4 hb4 h3 h3I hH3 hK3
    go_wp2_with (at_builtin; (refine wpList_app rfl _ _ 22 5 .u8 1 rfl Tryd.underlying22 inf_u8 hOe hRe rfl rfl hsl s rfl 32 hsl (by omega) (by omega) (by simp) ?_; intro Aa ca wa hOa hga hfa))
    have hKa := hKe.grew hOe hga (by omega) (by simp)
    have hsa := hKa.size
    have hgca : ∀ j, j < 32 → (∃ u, wa.cell? ⟨g, j, none⟩ = some (.int .u8 u)) ∧ wa.frozen? ⟨g, j, none⟩ = false := fun j hj =>
      ⟨⟨gt s j, (World.cell?_of_block (a := ⟨g, j, none⟩) (hKa.block g hg2 (fun h => h))).trans (hgc j (by omega)).1⟩, (frozen_of_block (hKa.block g hg2 (fun h => h))).trans (hgc j (by omega)).2⟩
    have hKwa := hK4.trans (S' := fun _ => False) hKa (by omega) (fun _ _ h => h)
    have hHa := hH4.kept hKa (Nat.le_refl _) (fun h => h) (fun _ _ h => h)
    clear hOe hRe hKe hga hfa hgc hKa hK4 hH4
    go_loopg [6] 32 (fun gk v wr => JA2 wa wa.heap.size g gk v wr)
    case atStart => exact ⟨0, rfl, rfl, by omega, hgca, Kept.refl _ _ _⟩
    case round =>
      clear hgca
      obtain ⟨i, rfl, hgk, hi, hcs, hK⟩ := hrel
      have HGK := Lib.hid hgk
      clear hgk
      by_cases hlt : i < 32
      · have hltI : (i : Int) < 32 := by omega
        obtain ⟨⟨u, hcl⟩, hfl⟩ := hcs i hlt
        have HCS := Lib.hid hcs
        clear hcs
        go_wp2_with fail
        go_roundg (32 - (i + 1))
        case measure => have := HGK.out; omega
        case rel =>
          refine ⟨i + 1, by go_num, rfl, by omega, fun j hj => ⟨someInt_setCell (HCS.out j hj).1 _ _, ?_⟩, hK.set g i _ (.inr rfl)⟩
          rw [World.frozen?_setCell]
          exact (HCS.out j hj).2
      · have hltI : ¬ (i : Int) < 32 := by omega
        have hKw := hKwa.trans (S' := fun b => b = g) hK (by omega) (fun k hk e => by omega)
        have hOr := hOa.kept hK (Nat.le_refl _) (fun g' e h => by have := (hOa.lt g' e).1; omega)
        have hHr := hHa.kept hK (Nat.le_refl _) (fun h => by omega) (fun q hq h => by have := hal3 q hq; omega)
        have hsr := hK.size
        have HSR : Hid (w4.heap.size ≤ wr.heap.size) := Lib.hid (by omega)
        clear hcs hK hOa hKwa HGK hHa hsr
        go_wp2_with fail
        have hsr := HSR.out
        have hwr := write_any l [] none 0 0 p 0 l.length a3 wr hHr (by omega) (fun h => absurd h (by simp)) rfl (by omega) (by simpa using hby) (hT.kept hKw (Nat.le_refl _) (fun h => h) (fun h => h)) ⟨by omega, fun h => by have := ha3 _ h; omega⟩ ⟨by omega, fun h => by have := ha3 _ h; omega⟩
        (with_reducible refine hwr.mono ?_)
        rintro e w5 ⟨rfl, a5, ho5, hH5, hk5⟩
        have hs5 := hk5.size
        have hK5 := hKw.wr (by omega) (by omega) (fun g' h => by have := ha3 _ h; omega) hk5
        have hO5 := hOr.kept hk5 (Nat.le_refl _) (fun g' e h => by have := (hOr.lt g' e).1; exact h.elim (fun e => by omega) (fun e => by have := hal3 _ e; omega))
        rw [List.append_nil, Nat.add_zero] at hH5
        clear hwr hk5 ho5 hHr hOr hKw
        go_wp2_with fail
        (with_reducible refine (sum2_any l s p a5 w5 HS.out hH5 (by omega) hby (hT.kept hK5 (Nat.le_refl _) (fun h => h) (fun h => h))).mono ?_)
        rintro e w6 ⟨A6, c6, rfl, hF6, hb6⟩
        have hs6 := hb6.size
        have hK6 := hK5.bl (by omega) hb6
        have hO6 := hO5.below hb6 (Nat.le_refl _)
        clear hH5 hb6 hO5 hK5
        go_wp2_with fail
        (with_reducible refine (same2_true w6 A6 Aa s 32 c6 ca w6.heap.size w6.heap.size hF6.rd hO6.rd hsl (by omega)).mono ?_)
        rintro e w7 ⟨rfl, q, rfl⟩
        have hK7 := hK6.drewN q
        have hO7 := hO6.drewN q
        have hs7 : (w6.drewN q).heap.size = w6.heap.size := by simp
        generalize w6.drewN q = w7 at hK7 hO7 hs7 ⊢
        have HS7 := Lib.hid hs7
        clear hF6 hO6 hK6 hs7
        go_wp2_with fail
        have hs7 := HS7.out
        (with_reducible refine (one2_any l s A l.length c w.heap.size w7 HS.out (hr.kept hK7 (Nat.le_refl _) (fun _ _ h => h)) (by omega) rfl (by omega) hby (hT.kept hK7 (Nat.le_refl _) (fun h => h) (fun h => h))).mono ?_)
        rintro e w8 ⟨A8, c8, rfl, hF8, hb8⟩
        have hK8 := hK7.bl (by omega) hb8
        have hO8 := hO7.below hb8 (Nat.le_refl _)
        clear hb8 hO7 hK7 hs7
        go_wp2_with fail
        (with_reducible refine (same2_true w8 A8 Aa s 32 c8 ca w8.heap.size w8.heap.size hF8.rd hO8.rd hsl (by omega)).mono ?_)
        rintro e w9 ⟨rfl, q9, rfl⟩
        have hK9 := hK8.drewN q9
        generalize w8.drewN q9 = w9 at hK9 ⊢
        clear hF8 hO8 hK8
        go_wp2_with fail
        go_ret
        exact ⟨rfl, hK9.below⟩
end Go.Proofs.YteidkdpfjponfaaDoor
