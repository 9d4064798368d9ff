/- sha2.One, walked. Conditions: the octets read; small lengths; the tables. -/
import Derived.Test.YtfaonieaagepjaaDoorS2G
namespace Go.Proofs.YtfaonieaagepjaaDoor
open Go.RowKit
set_option linter.unusedVariables false
set_option linter.unusedSimpArgs false
set_option maxRecDepth 100000 in
set_option maxHeartbeats 4000000 in
theorem one2_any (b F : List Int) (A : Option Addr) (n c BB : Nat) (w : World) (hF : sum2 b = F) (hr : Rd w BB .u8 A b) (hBB : BB ≤ w.heap.size) (hn : b.length = n) (hl : n ≤ 1000000) (hb : Bys b) (hT : S2Tb w) :
    Calls Tryd.prog 43 #[.slice A n c] w (SumPost2 w F) := by
  go_enter Tryd.func43, Tryd.ntmps43
  go_wp2_with fail
  (with_reducible refine (new2_any w hT).mono ?_)
  rintro e w1 ⟨rfl, hH1, hb1, hs1⟩
  have hT1 := hT.below hb1 (Nat.le_refl _)
  have hTl := hT.lt
  have hR1 := hr.below (hb1.mono hBB)
  go_wp2_with fail
  have hwr := write_any [] b A n c w.heap.size BB 0 none w1 hH1 (by omega) hR1 hn (by simp; omega) hb hT1 ⟨by omega, by simp⟩ ⟨by omega, by simp⟩
  (with_reducible refine hwr.mono ?_)
  rintro e w2 ⟨rfl, a2, ho2, hH2, hk2⟩
  have hs2 := hk2.size
  have hK2 := (Kept.of_below (S := fun _ => False) hb1).trans (S' := fun q => q = w.heap.size ∨ (none : Option Nat) = some q) hk2 hb1.size (fun q hq h => h.elim (fun e => absurd hq (by omega)) (fun e => by cases e))
  have hT2 := hT.kept hK2 (Nat.le_refl _) (fun h => h) (fun h => h)
  rw [List.nil_append, Nat.zero_add] at hH2
  clear hwr hk2 hH1 hR1 hT1 hr
  go_wp2_with fail
  have hsm := sum2_any b F w.heap.size a2 w2 hF (hn ▸ hH2) (by omega) hb hT2
  (with_reducible refine hsm.mono ?_)
  rintro e w3 ⟨Az, cz, rfl, hFz, hbz⟩
  have hK3 := hK2.trans (S' := fun _ => False) (Kept.of_below hbz) (by omega) (fun _ _ h => h)
  clear hsm hH2
  go_wp2_with fail
  go_ret
  exact ⟨Az, cz, rfl, hFz.low (by omega), hK3.below⟩
end Go.Proofs.YtfaonieaagepjaaDoor
