/- Sha2Parts, walked. Conditions: the text and the sizes read as bytes; the tables. -/
import Derived.Test.YteidkdpfjponfaaDoorS2J
import Derived.Test.YteidkdpfjponfaaDoorS2O
import Derived.Test.YteidkdpfjponfaaDoorLin3
import Derived.HandedShaped
namespace Go.Proofs.YteidkdpfjponfaaDoor
open Go.RowKit
set_option linter.unusedVariables false
set_option linter.unusedSimpArgs false
/-- Two hashes that don't touch one another. -/
structure PH (w0 w : World) (B p1 p2 : Nat) (a1 a2 : Option Nat) (L M : List Int) : Prop where
  h1 : Hsh w p1 a1 (hst L) (hrs L) (L.length : Nat)
  h2 : Hsh w p2 a2 (hst M) (hrs M) (M.length : Nat)
  n1 : ∀ g, a1 = some g → B ≤ g ∧ g ≠ p1 ∧ g ≠ p2
  n2 : ∀ g, a2 = some g → B ≤ g ∧ g ≠ p1 ∧ g ≠ p2
  ap : ∀ g, a1 = some g → a2 ≠ some g
  k : Kept B (fun _ => False) w0 w
section
variable {w0 w w' : World} {B p1 p2 : Nat} {a1 a2 a3 : Option Nat} {L M L' : List Int}
theorem PH.keep {D : Nat} {S : Nat → Prop} (h : PH w0 w B p1 p2 a1 a2 L M) (hk : Kept D S w w') (hD : w.heap.size ≤ D) (hB : B ≤ w.heap.size) (hs : ∀ g, g = p1 ∨ g = p2 ∨ a1 = some g ∨ a2 = some g → ¬ S g) (hS : ∀ g, g < B → ¬ S g) : PH w0 w' B p1 p2 a1 a2 L M :=
  ⟨h.h1.kept hk hD (hs _ (.inl rfl)) (fun g hg => hs g (.inr (.inr (.inl hg)))), h.h2.kept hk hD (hs _ (.inr (.inl rfl))) (fun g hg => hs g (.inr (.inr (.inr hg)))), h.n1, h.n2, h.ap,
    h.k.trans hk (by omega) (fun g hg hx => absurd hx (hS g hg))⟩
theorem PH.below (h : PH w0 w B p1 p2 a1 a2 L M) (hk : Below w.heap.size w w') (hB : B ≤ w.heap.size) : PH w0 w' B p1 p2 a1 a2 L M :=
  h.keep (Kept.of_below (S := fun _ => False) hk) (Nat.le_refl _) hB (fun _ _ h => h) (fun _ _ h => h)
theorem PH.lt (h : PH w0 w B p1 p2 a1 a2 L M) : ∀ g, g = p1 ∨ g = p2 ∨ a1 = some g ∨ a2 = some g → g < w.heap.size := fun g hg => by
  rcases hg with rfl | rfl | hg | hg
  · exact h.h1.lt
  · exact h.h2.lt
  · exact h.h1.alt g hg
  · exact h.h2.alt g hg
theorem PH.step1 {C : Nat} (h : PH w0 w B p1 p2 a1 a2 L M) (hB : B ≤ w.heap.size) (hp : B ≤ p1) (hne : p1 ≠ p2) (ho : OwnOr w.heap.size a1 a3) (hH : Hsh w' p1 a3 (hst L') (hrs L') (C : Nat)) (hC : C = L'.length) (hk : Kept w.heap.size (fun q => q = p1 ∨ a1 = some q) w w') : PH w0 w' B p1 p2 a3 a2 L' M := by
  subst hC
  have hl := h.lt
  refine ⟨hH, h.h2.kept hk (Nat.le_refl _) (fun e => ?_) (fun g hg e => ?_), fun g hg => ?_, h.n2, fun g hg => ?_, h.k.trans hk hB (fun g hg e => ?_)⟩
  · rcases e with e | e
    · exact hne e.symm
    · exact (h.n1 _ e).2.2 rfl
  · rcases e with e | e
    · exact (h.n2 _ hg).2.1 e
    · exact h.ap _ e hg
  · rcases ho with rfl | ⟨g', e, hg'⟩
    · exact h.n1 g hg
    · rw [e] at hg; cases hg
      have := hl p1 (.inl rfl); have := hl p2 (.inr (.inl rfl))
      omega
  · rcases ho with rfl | ⟨g', e, hg'⟩
    · exact h.ap g hg
    · rw [e] at hg; cases hg
      intro e2
      have := hl _ (.inr (.inr (.inr e2)))
      omega
  · rcases e with e | e
    · omega
    · have := (h.n1 _ e).1; omega
theorem PH.swap (h : PH w0 w B p1 p2 a1 a2 L M) : PH w0 w B p2 p1 a2 a1 M L :=
  ⟨h.h2, h.h1, fun g hg => ⟨(h.n2 g hg).1, (h.n2 g hg).2.2, (h.n2 g hg).2.1⟩, fun g hg => ⟨(h.n1 g hg).1, (h.n1 g hg).2.2, (h.n1 g hg).2.1⟩, fun g hg e => h.ap g e hg, h.k⟩
end
def t3 (i : Nat) : List Int := (List.replicate i [1, 2, 3]).flatten
theorem t3_succ (i : Nat) : t3 i ++ [1, 2, 3] = t3 (i + 1) := by rw [t3, t3, List.replicate_succ']; simp
theorem t3_len (i : Nat) : (t3 i).length = 3 * i := by
  induction i with
  | zero => rfl
  | succ i ih => rw [← t3_succ, List.length_append, ih]; rfl
theorem t3_B (i : Nat) : Bys (t3 i) := by
  induction i with
  | zero => exact Bys.nil
  | succ i ih => rw [← t3_succ]; exact ih.append (by unfold Bys B8; decide)
/-- Between the parts. -/
def RP2 (w0 : World) (B p1 p2 n : Nat) (l : List Int) (gk : Nat) (v x : Value) (w : World) : Prop :=
  ∃ (i at_ : Nat) (a1 a2 : Option Nat), v = .int .i64 at_ ∧ x = .int .i64 i ∧ i ≤ n ∧ gk = n - i ∧ at_ ≤ l.length ∧ PH w0 w B p1 p2 a1 a2 (l.take at_) (t3 i)
/-- Writing over a part. -/
def JP2 (wD : World) (D k : Nat) (A : Option Addr) (gk : Nat) (v : Value) (w : World) : Prop :=
  ∃ j : Nat, v = .int .i64 j ∧ gk = k - j ∧ j ≤ k ∧ (∀ g, A = some ⟨g, 0, none⟩ → ∀ i, i < k → (∃ u, w.cell? ⟨g, i, none⟩ = some (.int .u8 u)) ∧ w.frozen? ⟨g, i, none⟩ = false) ∧ Kept D (fun b => A = some ⟨b, 0, none⟩) wD w
set_option maxRecDepth 100000 in
set_option maxHeartbeats 4000000 in
theorem parts2_walk (l z : List Int) (A A' : Option Addr) (c c' : Nat) (w : World) (hr : Rd w w.heap.size .u8 A l) (hlc : l.length ≤ c) (hc : c ≤ 9223372036854775807) (hby : Bys l)
    (hz_ : Rd w w.heap.size .u8 A' z) (hzc : z.length ≤ c') (hc' : c' ≤ 9223372036854775807) (hzb : Bys z) (hT : S2Tb w) :
    Calls Tryd.prog 5 #[.slice A l.length c, .slice A' z.length c'] w fun e w' => e = .returned (.bool true) ∧ Below w.heap.size w w' := by
  have hTl := hT.lt
  go_enter Tryd.func5, Tryd.ntmps5
  go_wp2_with fail
  (with_reducible refine (awake02_any w hT).mono ?_)
  rintro e w1 ⟨rfl, hb1⟩
  have hK1 := (Kept.refl w.heap.size (fun _ => False) w).bl (Nat.le_refl _) hb1
  have hs1 := hb1.size
  by_cases h3 : 2000 < l.length
  · have h3I : (2000 : Int) < l.length := by omega
    go_wp2_with fail
    go_ret
    exact ⟨rfl, hb1⟩
  · have h3I : ¬ (2000 : Int) < l.length := by omega
    by_cases h4 : 60 < z.length
    · have h4I : (60 : Int) < z.length := by omega
      go_wp2_with fail
      go_ret
      exact ⟨rfl, hb1⟩
    · have h4I : ¬ (60 : Int) < z.length := by omega
      have hmx : (200000000 : Nat) ≤ maxLen := by decide
      have hll : l.length ≤ 2000 := by omega
      have hzl : z.length ≤ 60 := by omega
      obtain ⟨B, hB⟩ : ∃ B, w.heap.size = B := ⟨_, rfl⟩
      have HB := Lib.hid hB
      go_wp2_with fail
      (with_reducible refine (new2_any w1 (hT.kept hK1 (Nat.le_refl _) (fun h => h) (fun h => h))).mono ?_)
      rintro e w2 ⟨rfl, hH2, hb2, hs2⟩
      have hK2 := hK1.bl hs1 hb2
      obtain ⟨p1, hp1⟩ : ∃ p, w1.heap.size = p := ⟨_, rfl⟩
      have hs2' : p1 < w2.heap.size := by omega
      have hp1B : B ≤ p1 := by omega
      rw [hp1] at hH2 ⊢
      clear hs2 hb2 hp1 hb1 hK1 hs1
      go_wp2_with fail
      (with_reducible refine (new2_any w2 (hT.kept hK2 (Nat.le_refl _) (fun h => h) (fun h => h))).mono ?_)
      rintro e w3 ⟨rfl, hH3, hb3, hs3⟩
      have hK3 := hK2.bl (by omega) hb3
      have hH23 := hH2.below hb3 (Nat.le_refl _)
      obtain ⟨p2, hp2⟩ : ∃ p, w2.heap.size = p := ⟨_, rfl⟩
      have hs3' : p2 < w3.heap.size := by omega
      rw [hp2] at hH3 hs2' ⊢
      rw [hB] at hK3
      have hPH : PH w w3 B p1 p2 none none (l.take 0) (t3 0) := ⟨hH23, hH3, fun _ h => (nomatch h), fun _ h => (nomatch h), fun _ h => (nomatch h), hK3⟩
      clear hs3 hb3 hp2 hH2 hH3 hH23 hK2 hK3 h3 h4 h3I h4I hB
      have hp12 : p1 ≠ p2 := by omega
      have hp2B : B ≤ p2 := by omega
      have HTL := Lib.hid hTl
      clear hTl
      go_wp2_with fail
      go_loopg [7, 8] z.length (fun gk v x wr => RP2 w B p1 p2 z.length l gk v x wr)
      case atStart => exact ⟨0, 0, none, none, rfl, rfl, Nat.zero_le _, rfl, Nat.zero_le _, hPH⟩
      case round =>
        clear hPH hs2' hs3'
        obtain ⟨wq, rfl⟩ : ∃ wq : World, wq = wr := ⟨_, rfl⟩
        obtain ⟨i, at_, a1, a2, rfl, rfl, hi, hgk, hat, hPH⟩ := hrel
        have HGK := Lib.hid hgk
        have hKq := hPH.k
        have hsq := hKq.size
        rw [HB.out] at hsq
        have hrq := hr.kept hKq (by have := HB.out; omega) (fun _ _ h => h)
        have hzq := hz_.kept hKq (by have := HB.out; omega) (fun _ _ h => h)
        have hTq := hT.kept hKq (by have := HB.out; omega) (fun h => h) (fun h => h)
        have hl12 := hPH.lt
        have hp1q := hl12 p1 (.inl rfl)
        have hp2q := hl12 p2 (.inr (.inl rfl))
        clear hgk
        by_cases hlt : i < z.length
        · have hltI : (i : Int) < (z.length : Int) := by omega
          obtain ⟨ad, rfl, hadb, hcell⟩ := hzq.at_ hlt
          obtain ⟨y, hy⟩ : ∃ y, gt z i = y := ⟨_, rfl⟩
          have hyb := hzb.gt i
          rw [hy] at hcell hyb
          obtain ⟨yn, rfl⟩ : ∃ yn : Nat, y = yn := ⟨y.toNat, by have := hyb.1; omega⟩
          obtain ⟨r, hr_⟩ : ∃ r, l.length - at_ = r := ⟨_, rfl⟩
          have hrI : (l.length : Int) - (at_ : Int) = (r : Int) := by omega
          obtain ⟨k, hk⟩ : ∃ k, min yn r = k := ⟨_, rfl⟩
          have hkr : k ≤ r := by omega
          have hyn : yn < 256 := by have := hyb.2; omega
          have hmn : min (yn : Int) (r : Int) = (k : Int) := by omega
          obtain ⟨a9, ha9⟩ : ∃ a, at_ + k = a := ⟨_, rfl⟩
          have ha9I : (at_ : Int) + (k : Int) = (a9 : Int) := by omega
          have hl9 : a9 ≤ l.length := by omega
          have hl9b : a9 ≤ 2000 := by omega
          have hsl := fun wx => run_slice_ab (P := Tryd.prog) 22 5 Tryd.underlying22 (by kernel_rfl) A l.length c at_ a9 (by omega) (by omega) .i64 .i64 wx
          obtain ⟨A2, hA2⟩ : ∃ A2, (if c = at_ then A else A.map (·.add at_)) = A2 := ⟨_, rfl⟩
          obtain ⟨c2, hc2⟩ : ∃ c2, c - at_ = c2 := ⟨_, rfl⟩
          rw [show a9 - at_ = k by omega, hA2, hc2] at hsl
          obtain ⟨part, hpt⟩ : ∃ q, (l.take a9).drop at_ = q := ⟨_, rfl⟩
          have hR2 := hrq.cut at_ a9 c hl9 (by omega)
          rw [hA2, hpt] at hR2
          have hpl : part.length = k := by rw [← hpt]; simp; omega
          have hpb : Bys part := by rw [← hpt]; exact (hby.take _).drop _
          have hnx : l.take at_ ++ part = l.take a9 := by
            have h := List.take_append_drop at_ (l.take a9)
            rwa [hpt, List.take_take, show min at_ a9 = at_ by omega] at h
          have htl : (l.take at_).length = at_ := by simp; omega
          have htl9 : (l.take a9).length = a9 := by simp; omega
          have HK := Lib.hid hk
          have HLC := Lib.hid hlc
          have HA9 := Lib.hid ha9
          have HNX := Lib.hid hnx
          have HPL := Lib.hid hpl
          have HTL9 := Lib.hid htl9
          have HTL0 := Lib.hid htl
          have HHS : Hid (hr_ = hr_) := Lib.hid rfl
          have HR := Lib.hid hr_
          have hOe := Own.lit (b := wq.heap.size) (e := 5) (k := .u8) wq [] (by omega) (Nat.zero_le _)
          have hRe := hR2.alloc (by have := HB.out; omega) (.cells #[] 5)
          clear hy hyb hk ha9 hA2 hc2 hpt hR2 hpl hnx htl9 htl HHS hr_ hrq hzq
          go_wp2_with (first
            | (at_builtin; refine wpList_app rfl _ _ 22 5 .u8 1 rfl Tryd.underlying22 inf_u8 hOe hRe rfl rfl HPL.out part rfl k HPL.out (by omega) (by omega) (by simp) ?_; intro Aa ca wa hOa hga hfa))
          have hKa : Kept wq.heap.size (fun _ => False) wq wa := ((Kept.refl wq.heap.size (fun _ => False) wq).alloc (.cells #[] 5) (Nat.le_refl _)).grew hOe hga (Nat.le_refl _) (by simp)
          have hBq : B ≤ wq.heap.size := hsq
          have hPa := hPH.keep hKa (Nat.le_refl _) hBq (fun _ _ h => h) (fun _ _ h => h)
          have hTa := hTq.kept hKa (Nat.le_refl _) (fun h => h) (fun h => h)
          have hsa := hKa.size
          have hg0 : ∀ g, Aa = some ⟨g, 0, none⟩ → wq.heap.size ≤ g ∧ g < wa.heap.size := fun g e => hOa.lt g (by rw [e]; rfl)
          have HG0 := Lib.hid hg0
          have HTA := Lib.hid (And.intro hTq.lt (And.intro hl12 hKq))
          clear hOe hRe hKa hga hfa hPH hTq hl12 hKq hg0 hsl hlc
          go_wp2_with fail
          have hgl : p1 ≠ 0 ∧ p1 ≠ 1 ∧ p2 ≠ 0 ∧ p2 ≠ 1 := by have := HTL.out; have := HB.out; omega
          have hag1 : a1 ≠ some 0 ∧ a1 ≠ some 1 := ⟨fun h => by have := (hPa.n1 _ h).1; have := HTL.out; have := HB.out; omega, fun h => by have := (hPa.n1 _ h).1; have := HTL.out; have := HB.out; omega⟩
          have hag2 : a2 ≠ some 0 ∧ a2 ≠ some 1 := ⟨fun h => by have := (hPa.n2 _ h).1; have := HTL.out; have := HB.out; omega, fun h => by have := (hPa.n2 _ h).1; have := HTL.out; have := HB.out; omega⟩
          have hwr := write_any (l.take at_) part Aa k ca p1 wa.heap.size (l.take at_).length a1 wa hPa.h1 (by have := HTL0.out; omega) hOa.rd HPL.out (by have := HTL0.out; omega) (by rw [HNX.out]; exact hby.take _) hTa ⟨hgl.1, hag1.1⟩ ⟨hgl.2.1, hag1.2⟩
          (with_reducible refine hwr.mono ?_)
          rintro e w4 ⟨rfl, a3, ho3, hH3, hk3⟩
          rw [HNX.out] at hH3
          have hP4 := hPa.step1 (by omega) hp1B hp12 ho3 hH3 (by have := HTL9.out; have := HTL0.out; have := HA9.out; omega) hk3
          have hO4 := hOa.kept hk3 (Nat.le_refl _) (fun g e h => by have h1 := HTA.out.2.1; have h2 := (hOa.lt g e).1; rcases h with h | h; exact absurd (h1 p1 (.inl rfl)) (by omega); exact absurd (h1 g (.inr (.inr (.inl h)))) (by omega))
          have hT4 := hT.kept hP4.k (by have := HB.out; omega) (fun h => h) (fun h => h)
          have hs4 := hk3.size
          have ha3 : ∀ g, a3 = some g → ∀ g', Aa = some ⟨g', 0, none⟩ → g ≠ g' := fun g hg g' hg' e => by
            subst e
            have h1 := HG0.out g hg'
            rcases ho3 with rfl | ⟨g2, e2, h2⟩
            · have := HTA.out.2.1 g (.inr (.inr (.inl hg))); omega
            · rw [e2] at hg; cases hg; omega
          have HA3 := Lib.hid ha3
          have HS4 : Hid (wq.heap.size ≤ w4.heap.size ∧ wa.heap.size ≤ w4.heap.size) := Lib.hid ⟨by omega, hs4⟩
          clear hwr hH3 hk3 ho3 hPa hOa hTa hs4 ha3 hsa
          go_wp2_with fail
          have hs4 := HS4.out
          have hP5 := hP4.keep (w' := w4.alloc (.cells (U .u8 [1, 2, 3]) 5)) ((Kept.refl w4.heap.size (fun _ => False) w4).alloc _ (Nat.le_refl _)) (Nat.le_refl _) (by omega) (fun _ _ h => h) (fun _ _ h => h)
          have hN5 := Rd.of_arr (B := w4.heap.size + 1) (Arr.new w4 5 .u8 [1, 2, 3]) (by omega)
          have hO5 := hO4.alloc (.cells (U .u8 [1, 2, 3]) 5)
          have hs5 : (w4.alloc (.cells (U .u8 [1, 2, 3]) 5)).heap.size = w4.heap.size + 1 := by simp
          have hT5 := hT.kept hP5.k (by have := HB.out; omega) (fun h => h) (fun h => h)
          change Calls _ _ _ (w4.alloc (.cells (U .u8 [1, 2, 3]) 5)) _
          generalize w4.alloc (.cells (U .u8 [1, 2, 3]) 5) = w5 at hP5 hN5 hO5 hs5 hT5 ⊢
          have hwr := write_any (t3 i) [1, 2, 3] (some ⟨w4.heap.size, 0, none⟩) 3 3 p2 (w4.heap.size + 1) (t3 i).length a2 w5 hP5.h2 (by rw [t3_len]; omega) hN5 rfl (by rw [t3_len]; omega) (by rw [t3_succ]; exact t3_B _) hT5 ⟨hgl.2.2.1, hag2.1⟩ ⟨hgl.2.2.2, hag2.2⟩
          (with_reducible refine hwr.mono ?_)
          rintro e w6 ⟨rfl, a4, ho4, hH4, hk4⟩
          rw [t3_succ] at hH4
          have hP6 := (hP5.swap.step1 (by omega) hp2B hp12.symm ho4 hH4 (by rw [t3_len, t3_len]; omega) hk4).swap
          have hO6 := hO5.kept hk4 (Nat.le_refl _) (fun g e h => by have h1 := HTA.out.2.1; have h2 := (hO5.lt g e).1; rcases h with h | h; exact absurd (h1 p2 (.inr (.inl rfl))) (by omega); exact absurd (h1 g (.inr (.inr (.inr h)))) (by omega))
          have hs6 := hk4.size
          have ha4 : ∀ g, g = p1 ∨ g = p2 ∨ a3 = some g ∨ a4 = some g → ¬ Aa = some ⟨g, 0, none⟩ := fun g hg e => by
            have h1 := HG0.out g e
            rcases hg with rfl | rfl | hg | hg
            · have := HTA.out.2.1 g (.inl rfl); omega
            · have := HTA.out.2.1 g (.inr (.inl rfl)); omega
            · exact HA3.out g hg g e rfl
            · rcases ho4 with rfl | ⟨g2, e2, h2⟩
              · have := HTA.out.2.1 g (.inr (.inr (.inr hg))); omega
              · rw [e2] at hg; cases hg; omega
          have HA4 := Lib.hid ha4
          have HS6 : Hid (B ≤ w6.heap.size ∧ wa.heap.size ≤ w6.heap.size) := Lib.hid ⟨by omega, by omega⟩
          have hcs6 : ∀ g, Aa = some ⟨g, 0, none⟩ → ∀ i, i < k → (∃ u, w6.cell? ⟨g, i, none⟩ = some (.int .u8 u)) ∧ w6.frozen? ⟨g, i, none⟩ = false := fun g e i hi => by
            subst e
            exact ⟨⟨_, hO6.cell i (by rw [HPL.out]; exact hi)⟩, hO6.free i⟩
          have hA6 := hO6.form
          clear hwr hH4 hk4 ho4 hP5 hO5 hN5 hT5 hs5 hs6 ha4 hs4 hP4 hO4 hT4 HA3
          go_wp2_with fail
          go_loopg [11] k (fun gk v wr => JP2 w6 w6.heap.size k Aa gk v wr)
          case atStart => exact ⟨0, rfl, rfl, Nat.zero_le _, hcs6, Kept.refl _ _ _⟩
          case round =>
            clear hcs6
            obtain ⟨j, rfl, hgk, hj, hcs, hK⟩ := hrel
            have HGK2 := Lib.hid hgk
            clear hgk
            by_cases hlt2 : j < k
            · have hltI2 : (j : Int) < (k : Int) := by omega
              obtain ⟨g, rfl, hpk, hgb, hgl2, hpc⟩ := hO6.where_ (by have := HPL.out; omega)
              clear hpk hpc
              obtain ⟨⟨u, hcl⟩, hfl⟩ := hcs g rfl j hlt2
              have HCS := Lib.hid hcs
              clear hcs
              go_wp2_with fail
              go_roundg (k - (j + 1))
              case measure => have := HGK2.out; omega
              case rel =>
                refine ⟨j + 1, by go_num, rfl, by omega, fun g2 e2 i2 hi2 => ?_, hK.set g j _ (.inr rfl)⟩
                cases e2
                refine ⟨someInt_setCell (HCS.out g rfl i2 hi2).1 _ _, ?_⟩
                rw [World.frozen?_setCell]
                exact (HCS.out g rfl i2 hi2).2
            · have hltI2 : ¬ (j : Int) < (k : Int) := by omega
              have hP7 := hP6.keep hK (Nat.le_refl _) HS6.out.1 HA4.out (fun g hg e => by have := HG0.out g e; omega)
              clear hcs hO6 hP6 hK hA6 HGK2
              have hP7l := hP7.lt
              have hTr := hT.kept hP7.k (by have := HB.out; omega) (fun h => h) (fun h => h)
              have hrr := (hr.kept hP7.k (by have := HB.out; omega) (fun _ _ h => h)).take_ a9
              have hBr : B ≤ wr.heap.size := by have := hP7.k.size; have := HB.out; omega
              have hs2 : ∀ wx, (Instr.slice 22 (.slice A l.length c) none (some (.int .i64 (a9 : Int))) none).run Tryd.prog wx = .ok (.slice A a9 c) wx := fun wx => run_slice_0v 22 5 Tryd.underlying22 (by kernel_rfl) A _ c a9 (by have := HLC.out; omega) .i64 wx
              by_cases h5 : i < 5
              · have h5I : (i : Int) < 5 := by omega
                go_upto_region 20 with fail
                refine Lx.enter (fun _ => True) 12 (by kernel_rfl) (by kernel_rfl) trivial ?_
                (refine Lx.val 0 ?_ rfl (by kernel_rfl) (by kernel_rfl) (by kernel_rfl) (fun _ _ _ h => h) (by kernel_rfl) ?_ ?_; rotate_left 1; focus (intro w hw; go_simp; with_reducible rfl)); (try simp only [Act.put, List.getElem_toArray, List.getElem_cons_succ, List.getElem_cons_zero, List.setIfInBounds_toArray, List.set_cons_zero, List.set_cons_succ])
                (refine Lx.val 1 ?_ rfl (by kernel_rfl) (by kernel_rfl) (by kernel_rfl) (fun _ _ _ h => h) (by kernel_rfl) ?_ ?_; rotate_left 1; focus (intro w hw; go_simp; with_reducible rfl)); (try simp only [Act.put, List.getElem_toArray, List.getElem_cons_succ, List.getElem_cons_zero, List.setIfInBounds_toArray, List.set_cons_zero, List.set_cons_succ])
                (refine Lx.val 2 ?_ rfl (by kernel_rfl) (by kernel_rfl) (by kernel_rfl) (fun _ _ _ h => h) (by kernel_rfl) ?_ ?_; rotate_left 1; focus (intro w hw; go_simp; with_reducible rfl)); (try simp only [Act.put, List.getElem_toArray, List.getElem_cons_succ, List.getElem_cons_zero, List.setIfInBounds_toArray, List.set_cons_zero, List.set_cons_succ])
                (refine Lx.val 3 ?_ rfl (by kernel_rfl) (by kernel_rfl) (by kernel_rfl) (fun _ _ _ h => h) (by kernel_rfl) ?_ ?_; rotate_left 1; focus (intro w hw; go_simp; with_reducible rfl)); (try simp only [Act.put, List.getElem_toArray, List.getElem_cons_succ, List.getElem_cons_zero, List.setIfInBounds_toArray, List.set_cons_zero, List.set_cons_succ])
                (refine Lx.val 5 ?_ rfl (by kernel_rfl) (by kernel_rfl) (by kernel_rfl) (fun _ _ _ h => h) (by kernel_rfl) ?_ ?_; rotate_left 1; focus (intro w hw; go_simp; with_reducible rfl)); (try simp only [Act.put, List.getElem_toArray, List.getElem_cons_succ, List.getElem_cons_zero, List.setIfInBounds_toArray, List.set_cons_zero, List.set_cons_succ])
                (refine Lx.val 6 ?_ rfl (by kernel_rfl) (by kernel_rfl) (by kernel_rfl) (fun _ _ _ h => h) (by kernel_rfl) ?_ ?_; rotate_left 1; focus (intro w hw; go_simp; with_reducible rfl)); (try simp only [Act.put, List.getElem_toArray, List.getElem_cons_succ, List.getElem_cons_zero, List.setIfInBounds_toArray, List.set_cons_zero, List.set_cons_succ])
                (refine Lx.val 7 ?_ rfl (by kernel_rfl) (by kernel_rfl) (by kernel_rfl) (fun _ _ _ h => h) (by kernel_rfl) ?_ ?_; rotate_left 1; focus (intro w hw; go_simp; with_reducible rfl)); (try simp only [Act.put, List.getElem_toArray, List.getElem_cons_succ, List.getElem_cons_zero, List.setIfInBounds_toArray, List.set_cons_zero, List.set_cons_succ])
                have hr2 := hrr.drew
                have hH8 : Hsh wr.drew p1 a3 (hst (l.take a9)) (hrs (l.take a9)) ((l.take a9).length : Nat) := hP7.h1.keep rfl (fun _ _ => rfl)
                have hP8 := hP7.keep (w' := wr.drew) ((Kept.refl wr.heap.size (fun _ => False) wr).drew) (Nat.le_refl _) hBr (fun _ _ h => h) (fun _ _ h => h)
                have hT8 : S2Tb wr.drew := hTr
                have hBw : B ≤ wr.drew.heap.size := hBr
                generalize wr.drew = w8 at hr2 hH8 hP8 hT8 hBw ⊢
                clear hP7 hP7l hTr hrr hBr
                refine Lx.call 4 (f := 24) (args := #[.pointer (some ⟨p1, 0, none⟩)]) rfl (by kernel_rfl) (by kernel_rfl) (by kernel_rfl) (fun _ => (sum2_any (l.take a9) (sum2 (l.take a9)) p1 a3 w8 rfl hH8 (by have := HTL9.out; omega) (hby.take _) hT8).mono ?_)
                rintro e w9 ⟨A9, c9, rfl, hF9, hb9⟩
                refine ⟨_, rfl, trivial, ?_⟩
                (try simp only [Act.put, List.getElem_toArray, List.getElem_cons_succ, List.getElem_cons_zero, List.setIfInBounds_toArray, List.set_cons_zero, List.set_cons_succ])
                have hs9 := hb9.size
                have hP9 := hP8.below hb9 hBw
                have hr9 := hr2.below (hb9.mono (by have := HB.out; omega))
                refine Lx.call 8 (f := 17) (args := #[.slice A a9 c]) rfl (by kernel_rfl) (by kernel_rfl) (by kernel_rfl) (fun _ => (rone2_any (l.take a9) (sum2 (l.take a9)) A c w.heap.size a9 w9 rfl hr9 (by have := HB.out; omega) (by have := HTL9.out; omega) HTL9.out (hby.take _)).mono ?_)
                rintro e w10 ⟨A10, c10, rfl, hF10, hb10⟩
                refine ⟨_, rfl, trivial, ?_⟩
                (try simp only [Act.put, List.getElem_toArray, List.getElem_cons_succ, List.getElem_cons_zero, List.setIfInBounds_toArray, List.set_cons_zero, List.set_cons_succ])
                have hP10 := hP9.below hb10 (by omega)
                have hF9' := hF9.below hb10 (Nat.le_refl _)
                have hs10 := hb10.size
                refine Lx.call 9 (f := 15) (args := #[.slice A9 32 c9, .slice A10 32 c10]) rfl (by kernel_rfl) (by kernel_rfl) (by kernel_rfl) (fun _ => (same2_true w10 A9 A10 (sum2 (l.take a9)) 32 c9 c10 w10.heap.size w10.heap.size hF9'.rd hF10.rd (sum2_len _) (by omega)).mono ?_)
                rintro e w11 ⟨rfl, q, rfl⟩
                refine ⟨_, rfl, trivial, ?_⟩
                (try simp only [Act.put, List.getElem_toArray, List.getElem_cons_succ, List.getElem_cons_zero, List.setIfInBounds_toArray, List.set_cons_zero, List.set_cons_succ])
                have hP11 := hP10.keep (w' := w10.drewN q) ((Kept.refl w10.heap.size (fun _ => False) w10).drewN q) (Nat.le_refl _) (by omega) (fun _ _ h => h) (fun _ _ h => h)
                generalize w10.drewN q = w11 at hP11 ⊢
                (refine Lx.val 10 ?_ rfl (by kernel_rfl) (by kernel_rfl) (by kernel_rfl) (fun _ _ _ h => h) (by kernel_rfl) ?_ ?_; rotate_left 1; focus (intro w hw; go_simp; with_reducible rfl)); (try simp only [Act.put, List.getElem_toArray, List.getElem_cons_succ, List.getElem_cons_zero, List.setIfInBounds_toArray, List.set_cons_zero, List.set_cons_succ])
                (refine Lx.val 11 ?_ rfl (by kernel_rfl) (by kernel_rfl) (by kernel_rfl) (fun _ _ _ h => h) (by kernel_rfl) ?_ ?_; rotate_left 1; focus (intro w hw; go_simp; with_reducible rfl)); (try simp only [Act.put, List.getElem_toArray, List.getElem_cons_succ, List.getElem_cons_zero, List.setIfInBounds_toArray, List.set_cons_zero, List.set_cons_succ])
                refine Lx.done (by kernel_rfl) ?_
                intro _
                clear hP8 hP9 hP10 hF9 hF10 hF9' hr2 hr9 hH8 hT8 hb9 hb10 hs9 hs10 hs2
                go_wp2_with fail
                go_roundg (z.length - (i + 1))
                case measure => have := HGK.out; omega
                case rel => exact ⟨i + 1, a9, a3, a4, rfl, by go_num, by omega, rfl, hl9, hP11⟩
              · have h5I : ¬ (i : Int) < 5 := by omega
                go_upto_region 20 with fail
                refine Lx.enter (fun _ => True) 12 (by kernel_rfl) (by kernel_rfl) trivial ?_
                (refine Lx.val 0 ?_ rfl (by kernel_rfl) (by kernel_rfl) (by kernel_rfl) (fun _ _ _ h => h) (by kernel_rfl) ?_ ?_; rotate_left 1; focus (intro w hw; go_simp; with_reducible rfl)); (try simp only [Act.put, List.getElem_toArray, List.getElem_cons_succ, List.getElem_cons_zero, List.setIfInBounds_toArray, List.set_cons_zero, List.set_cons_succ])
                (refine Lx.val 1 ?_ rfl (by kernel_rfl) (by kernel_rfl) (by kernel_rfl) (fun _ _ _ h => h) (by kernel_rfl) ?_ ?_; rotate_left 1; focus (intro w hw; go_simp; with_reducible rfl)); (try simp only [Act.put, List.getElem_toArray, List.getElem_cons_succ, List.getElem_cons_zero, List.setIfInBounds_toArray, List.set_cons_zero, List.set_cons_succ])
                (refine Lx.val 2 ?_ rfl (by kernel_rfl) (by kernel_rfl) (by kernel_rfl) (fun _ _ _ h => h) (by kernel_rfl) ?_ ?_; rotate_left 1; focus (intro w hw; go_simp; with_reducible rfl)); (try simp only [Act.put, List.getElem_toArray, List.getElem_cons_succ, List.getElem_cons_zero, List.setIfInBounds_toArray, List.set_cons_zero, List.set_cons_succ])
                refine Lx.no 3 rfl (by kernel_rfl) (by kernel_rfl) (by kernel_rfl) (fun _ _ _ h => h) (by kernel_rfl) ?_; (try simp only [Act.put, List.getElem_toArray, List.getElem_cons_succ, List.getElem_cons_zero, List.setIfInBounds_toArray, List.set_cons_zero, List.set_cons_succ])
                refine Lx.no 4 rfl (by kernel_rfl) (by kernel_rfl) (by kernel_rfl) (fun _ _ _ h => h) (by kernel_rfl) ?_; (try simp only [Act.put, List.getElem_toArray, List.getElem_cons_succ, List.getElem_cons_zero, List.setIfInBounds_toArray, List.set_cons_zero, List.set_cons_succ])
                refine Lx.no 5 rfl (by kernel_rfl) (by kernel_rfl) (by kernel_rfl) (fun _ _ _ h => h) (by kernel_rfl) ?_; (try simp only [Act.put, List.getElem_toArray, List.getElem_cons_succ, List.getElem_cons_zero, List.setIfInBounds_toArray, List.set_cons_zero, List.set_cons_succ])
                refine Lx.no 6 rfl (by kernel_rfl) (by kernel_rfl) (by kernel_rfl) (fun _ _ _ h => h) (by kernel_rfl) ?_; (try simp only [Act.put, List.getElem_toArray, List.getElem_cons_succ, List.getElem_cons_zero, List.setIfInBounds_toArray, List.set_cons_zero, List.set_cons_succ])
                refine Lx.no 7 rfl (by kernel_rfl) (by kernel_rfl) (by kernel_rfl) (fun _ _ _ h => h) (by kernel_rfl) ?_; (try simp only [Act.put, List.getElem_toArray, List.getElem_cons_succ, List.getElem_cons_zero, List.setIfInBounds_toArray, List.set_cons_zero, List.set_cons_succ])
                refine Lx.no 8 rfl (by kernel_rfl) (by kernel_rfl) (by kernel_rfl) (fun _ _ _ h => h) (by kernel_rfl) ?_; (try simp only [Act.put, List.getElem_toArray, List.getElem_cons_succ, List.getElem_cons_zero, List.setIfInBounds_toArray, List.set_cons_zero, List.set_cons_succ])
                refine Lx.no 9 rfl (by kernel_rfl) (by kernel_rfl) (by kernel_rfl) (fun _ _ _ h => h) (by kernel_rfl) ?_; (try simp only [Act.put, List.getElem_toArray, List.getElem_cons_succ, List.getElem_cons_zero, List.setIfInBounds_toArray, List.set_cons_zero, List.set_cons_succ])
                refine Lx.no 10 rfl (by kernel_rfl) (by kernel_rfl) (by kernel_rfl) (fun _ _ _ h => h) (by kernel_rfl) ?_; (try simp only [Act.put, List.getElem_toArray, List.getElem_cons_succ, List.getElem_cons_zero, List.setIfInBounds_toArray, List.set_cons_zero, List.set_cons_succ])
                (refine Lx.val 11 ?_ rfl (by kernel_rfl) (by kernel_rfl) (by kernel_rfl) (fun _ _ _ h => h) (by kernel_rfl) ?_ ?_; rotate_left 1; focus (intro w hw; go_simp; with_reducible rfl)); (try simp only [Act.put, List.getElem_toArray, List.getElem_cons_succ, List.getElem_cons_zero, List.setIfInBounds_toArray, List.set_cons_zero, List.set_cons_succ])
                refine Lx.done (by kernel_rfl) ?_
                intro _
                have hP8 := hP7.keep (w' := wr.drew) ((Kept.refl wr.heap.size (fun _ => False) wr).drew) (Nat.le_refl _) hBr (fun _ _ h => h) (fun _ _ h => h)
                generalize wr.drew = w8 at hP8 ⊢
                clear hP7 hP7l hTr hrr hs2
                go_wp2_with fail
                go_roundg (z.length - (i + 1))
                case measure => have := HGK.out; omega
                case rel => exact ⟨i + 1, a9, a3, a4, rfl, by go_num, by omega, rfl, hl9, hP8⟩
        · have hltI : ¬ (i : Int) < (z.length : Int) := by omega
          have HL := Lib.hid hlc
          have HAT := Lib.hid hat
          have hsl : ∀ wx, (Instr.slice 22 (.slice A l.length c) (some (.int .i64 (at_ : Int))) none none).run Tryd.prog wx = .ok (.slice (if c = at_ then A else A.map (·.add at_)) (l.length - at_) (c - at_)) wx := fun wx => run_slice_a 22 5 Tryd.underlying22 (by kernel_rfl) A _ c at_ hat .i64 wx
          obtain ⟨A2, hA2⟩ : ∃ A2, (if c = at_ then A else A.map (·.add at_)) = A2 := ⟨_, rfl⟩
          obtain ⟨c2, hc2⟩ : ∃ c2, c - at_ = c2 := ⟨_, rfl⟩
          obtain ⟨n2, hn2⟩ : ∃ n2, l.length - at_ = n2 := ⟨_, rfl⟩
          have hR2 := hrq.cut at_ l.length c (Nat.le_refl _) hlc
          rw [hA2, List.take_length] at hR2
          rw [hA2, hc2, hn2] at hsl
          have hdl : (l.drop at_).length = n2 := by rw [List.length_drop, hn2]
          have htk : l.take at_ ++ l.drop at_ = l := List.take_append_drop _ _
          have htl : (l.take at_).length = at_ := by simp; omega
          have HX := Lib.hid (And.intro hdl (And.intro htk htl))
          clear hA2 hc2 hdl htk htl
          have hN2 := Lib.hid hn2
          clear hn2
          go_wp2_with fail
          have hgl : p1 ≠ 0 ∧ p1 ≠ 1 := by have := HTL.out; have := HB.out; omega
          have hag1 : a1 ≠ some 0 ∧ a1 ≠ some 1 := ⟨fun h => by have := (hPH.n1 _ h).1; have := HTL.out; have := HB.out; omega, fun h => by have := (hPH.n1 _ h).1; have := HTL.out; have := HB.out; omega⟩
          have hwr := write_any (l.take at_) (l.drop at_) A2 n2 c2 p1 w.heap.size (l.take at_).length a1 wq hPH.h1 (by have := HX.out.2.2; omega) hR2 HX.out.1 (by have := HX.out.2.2; have := hN2.out; omega) (by rw [HX.out.2.1]; exact hby) hTq ⟨hgl.1, hag1.1⟩ ⟨hgl.2, hag1.2⟩
          (with_reducible refine hwr.mono ?_)
          rintro e w4 ⟨rfl, a3, ho3, hH3, hk3⟩
          rw [HX.out.2.1] at hH3
          have hP4 := hPH.step1 (by omega) hp1B hp12 ho3 hH3 (by have := HX.out.2.2; have := hN2.out; omega) hk3
          have hs4 := hk3.size
          have HS4 : Hid (B ≤ w4.heap.size) := Lib.hid (by omega)
          clear hwr hH3 hk3 ho3 hPH hTq hR2 hrq hzq hKq hl12 hs4 hsl
          go_wp2_with fail
          have hs4 := HS4.out
          have hT4 := hT.kept hP4.k (by have := HB.out; omega) (fun h => h) (fun h => h)
          obtain ⟨s, hs⟩ : ∃ s, sum2 l = s := ⟨_, rfl⟩
          have hsl : s.length = 32 := by rw [← hs, sum2_len]
          have HS := Lib.hid (And.intro hs hsl)
          clear hs hsl
          (with_reducible refine (sum2_any l s p1 a3 w4 HS.out.1 hP4.h1 (by omega) hby hT4).mono ?_)
          rintro e w5 ⟨A5, c5, rfl, hF5, hb5⟩
          have hP5 := hP4.below hb5 hs4
          have hs5 := hb5.size
          clear hb5
          have HS5 : Hid (B ≤ w5.heap.size) := Lib.hid (by omega)
          clear hs5 hs4 hT4
          go_wp2_with fail
          have hr5 := hr.kept hP5.k (by have := HB.out; omega) (fun _ _ h => h)
          (with_reducible refine (rone2_any l s A c w.heap.size l.length w5 HS.out.1 hr5 (by have := HB.out; have := HS5.out; omega) (by omega) rfl hby).mono ?_)
          rintro e w6 ⟨A6, c6, rfl, hF6, hb6⟩
          have hP6 := hP5.below hb6 HS5.out
          have hF56 := hF5.below hb6 (Nat.le_refl _)
          have hs6 := hb6.size
          have HS6 : Hid (B ≤ w6.heap.size) := Lib.hid (by have := HS5.out; omega)
          clear hb6 hr5 hs6 hP4
          go_wp2_with fail
          (with_reducible refine (same2_true w6 A5 A6 s 32 c5 c6 w6.heap.size w6.heap.size hF56.rd hF6.rd HS.out.2 (by omega)).mono ?_)
          rintro e w7 ⟨rfl, q, rfl⟩
          have hP7 := hP6.keep (w' := w6.drewN q) ((Kept.refl w6.heap.size (fun _ => False) w6).drewN q) (Nat.le_refl _) HS6.out (fun _ _ h => h) (fun _ _ h => h)
          have hs7 : B ≤ (w6.drewN q).heap.size := HS6.out
          generalize w6.drewN q = w7 at hP7 hs7 ⊢
          have HS7 := Lib.hid hs7
          clear hF5 hF6 hF56 hP5 hP6 hs7
          go_wp2_with fail
          have hT7 := hT.kept hP7.k (by have := HB.out; omega) (fun h => h) (fun h => h)
          (with_reducible refine (sum2_any l s p1 a3 w7 HS.out.1 hP7.h1 (by omega) hby hT7).mono ?_)
          rintro e w8 ⟨A8, c8, rfl, hF8, hb8⟩
          have hP8 := hP7.below hb8 HS7.out
          have hs8 := hb8.size
          have HS8 : Hid (B ≤ w8.heap.size) := Lib.hid (by have := HS7.out; omega)
          clear hb8 hs8 hT7 hP7
          go_wp2_with fail
          have hT8 := hT.kept hP8.k (by have := HB.out; omega) (fun h => h) (fun h => h)
          have hr8 := hr.kept hP8.k (by have := HB.out; omega) (fun _ _ h => h)
          (with_reducible refine (one2_any l s A l.length c w.heap.size w8 HS.out.1 hr8 (by have := HB.out; have := HS8.out; omega) rfl (by omega) hby hT8).mono ?_)
          rintro e w9 ⟨A9, c9, rfl, hF9, hb9⟩
          have hP9 := hP8.below hb9 HS8.out
          have hF89 := hF8.below hb9 (Nat.le_refl _)
          clear hb9 hT8 hr8 hP8
          go_wp2_with fail
          (with_reducible refine (same2_true w9 A8 A9 s 32 c8 c9 w9.heap.size w9.heap.size hF89.rd hF9.rd HS.out.2 (by omega)).mono ?_)
          rintro e w10 ⟨rfl, q9, rfl⟩
          have hK10 := hP9.k.drewN q9
          generalize w9.drewN q9 = w10 at hK10 ⊢
          clear hF89 hF9 hF8 hP9
          go_wp2_with fail
          go_ret
          exact ⟨rfl, by rw [HB.out]; exact hK10.below⟩
end Go.Proofs.YteidkdpfjponfaaDoor
