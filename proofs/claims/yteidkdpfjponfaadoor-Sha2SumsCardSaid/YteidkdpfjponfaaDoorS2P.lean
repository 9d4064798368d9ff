/- Sha2Sums, walked. Conditions: the text reads as bytes; the tables. -/
import Derived.Test.YteidkdpfjponfaaDoorS2J
import Derived.Test.YteidkdpfjponfaaDoorS2O
namespace Go.Proofs.YteidkdpfjponfaaDoor
open Go.RowKit
set_option linter.unusedVariables false
set_option linter.unusedSimpArgs false

set_option maxRecDepth 100000 in
set_option maxHeartbeats 1000000 in
theorem sums2_walk (l : List Int) (A : Option Addr) (c : Nat) (w : World) (hr : Rd w w.heap.size .u8 A l) (hlc : l.length ≤ c) (hc : c ≤ 9223372036854775807) (hby : Bys l) (ht : S2Tb w) :
    Calls Tryd.prog 3 #[.slice A l.length c] w fun e w' => e = .returned (.bool true) ∧ Below w.heap.size w w' := by
  go_enter Tryd.func3, Tryd.ntmps3
  go_wp2_with fail
  (with_reducible refine (awake02_any w ht).mono ?_)
  rintro e w1 ⟨rfl, hb1⟩
  have hr1 := hr.below hb1
  have hs1 := hb1.size
  by_cases h3 : 5000 < l.length
  · have h3I : (5000 : Int) < l.length := by omega
    go_wp2_with fail
    go_ret
    exact ⟨rfl, hb1⟩
  · have h3I : ¬ (5000 : Int) < l.length := by omega
    have hmx : (200000000 : Nat) ≤ maxLen := by decide
    have hOe := Own.lit (b := w1.heap.size) (e := 5) (k := .u8) w1 [] (by omega) (Nat.zero_le _)
    have hRe := hr1.alloc hs1 (.cells #[] 5)
    have hll : l.length ≤ 5000 := by omega
    have hKe : Kept w.heap.size (fun _ => False) w (w1.alloc (.cells #[] 5)) := (Kept.of_below (S := fun _ => False) hb1).alloc _ hs1
    go_wp2_with (at_builtin; refine wpList_app rfl _ _ 22 5 .u8 1 rfl Tryd.underlying22 inf_u8 hOe hRe rfl rfl rfl l rfl l.length rfl (by omega) (by omega) (by simp) ?_; intro Aa ca wa hOa hga hfa)
    have hKa := hKe.grew hOe hga (by omega) (by simp; omega)
    have hsa := hKa.size
    have hra := hr.kept hKa (Nat.le_refl _) (fun _ _ h => h)
    have hta := ht.kept hKa (Nat.le_refl _) (fun h => h) (fun h => h)
    clear hOe hRe hKe hga hfa
    (with_reducible refine (one2_any l (sum2 l) Aa l.length ca wa.heap.size wa rfl hOa.rd (Nat.le_refl _) rfl (by omega) hby hta).mono ?_)
    rintro e w2 ⟨A2, c2, rfl, hF2, hb2⟩
    have hO2 := hOa.below hb2 (Nat.le_refl _)
    have hr2 := hra.below (hb2.mono hsa)
    have hs2 := hb2.size
    go_wp2_with fail
    (with_reducible refine (rone2_any l (sum2 l) A c w.heap.size l.length w2 rfl hr2 (by omega) (by omega) rfl hby).mono ?_)
    rintro e w3 ⟨A3, c3, rfl, hF3, hb3⟩
    have hs3 := hb3.size
    have hF23 := hF2.below hb3 (Nat.le_refl _)
    have hOa3 := hO2.below hb3 (Nat.le_refl _)
    have hr3 := hr2.below (hb3.mono (by omega))
    go_wp2_with fail
    (with_reducible refine (same2_true w3 A2 A3 (sum2 l) 32 c2 c3 w3.heap.size w3.heap.size hF23.rd hF3.rd (sum2_len _) (by omega)).mono ?_)
    rintro e w4 ⟨rfl, q, rfl⟩
    go_wp2_with fail
    (with_reducible refine (same2_true _ Aa A l l.length ca c w3.heap.size w.heap.size (hOa3.rd.drewN q) (hr3.drewN q) rfl (by omega)).mono ?_)
    rintro e w5 ⟨rfl, q2, rfl⟩
    have hX : Kept w.heap.size (fun _ => False) w ((w3.drewN q).drewN q2) := ((hKa.trans (S' := fun _ => False) (Kept.of_below hb2) hsa (fun _ _ h => h)).trans (S' := fun _ => False) (Kept.of_below hb3) (by omega) (fun _ _ h => h)).drewN q |>.drewN q2
    generalize (w3.drewN q).drewN q2 = w6 at hX ⊢
    go_wp2_with fail
    go_ret
    exact ⟨rfl, hX.below⟩
end Go.Proofs.YteidkdpfjponfaaDoor
