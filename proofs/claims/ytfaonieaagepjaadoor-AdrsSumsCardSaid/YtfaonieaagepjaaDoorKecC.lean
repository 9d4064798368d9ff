import Derived.Test.YtfaonieaagepjaaDoorKecB
namespace Go.Proofs.YtfaonieaagepjaaDoor
open Go.RowKit
set_option maxRecDepth 100000
set_option linter.unusedVariables false
set_option linter.unusedSimpArgs false

theorem KTab.kept {w w' : World} {B : Nat} (h : KTab w) (hk : Kept B (fun _ => False) w w') (h0 : 4 < B) (h1 : 3 < B) : KTab w' :=
  ⟨Tab.kept h.1 hk h0 (fun h => h), Tab.kept h.2 hk h1 (fun h => h)⟩
theorem KTab.below {w w' : World} {B : Nat} (h : KTab w) (hk : Below B w w') (h0 : 4 < B) (h1 : 3 < B) : KTab w' := h.kept (Kept.of_below hk) h0 h1

set_option maxHeartbeats 2000000 in
theorem permute_any (l : List Int) (w : World) (hl : l.length = 25) (hw : Ws l) (ht0 : KTab w) (hz : 3 < w.heap.size) (hz0 : 4 < w.heap.size) :
    Calls Tryd.prog 83 #[.agg (U .u64 l)] w fun e w' => e = .returned (.agg (U .u64 (permute l))) ∧ Below w.heap.size w w' := by
  go_enter Tryd.func83, Tryd.ntmps83
  go_wp2_with fail
  obtain ⟨B, hB⟩ : ∃ B, w.heap.size = B := ⟨_, rfl⟩
  have hA0 : Arr (w.alloc (.cells (U .u64 l) 100)) B 100 .u64 l := by subst hB; exact Arr.new _ _ _ _
  have hA := hA0.alloc (.cells (U .u64 (List.replicate 25 0)) 100)
  have hR : Arr ((w.alloc (.cells (U .u64 l) 100)).alloc (.cells (U .u64 (List.replicate 25 0)) 100)) (B + 1) 100 .u64 (List.replicate 25 0) := by
    subst hB; have := Arr.new (w.alloc (.cells (U .u64 l) 100)) 100 .u64 (List.replicate 25 0); simpa using this
  have hK : Kept B (fun _ => False) w ((w.alloc (.cells (U .u64 l) 100)).alloc (.cells (U .u64 (List.replicate 25 0)) 100)) :=
    ((Kept.refl _ _ _).alloc _ (by omega)).alloc _ (by simp; omega)
  rw [hB, zero25]
  rw [hB] at hz hz0
  have hBv := Lib.hid hB
  clear hA0 hB
  go_loopw [4] (fun i wr => ∃ k : Nat, k ≤ 24 ∧ i = .int .i64 k ∧ Arr wr B 100 .u64 (permN l k) ∧ Arr wr (B + 1) 100 .u64 (List.replicate 25 0) ∧ Kept B (fun _ => False) w wr) (fun i _ => (24 - intOf i).toNat)
  case atStart => exact ⟨0, by omega, rfl, hA, hR, hK⟩
  case round =>
    clear hA hR hK
    obtain ⟨k, hk, rfl, ha, hr, hg⟩ := hrel
    obtain ⟨L, hL⟩ : ∃ L, permN l k = L := ⟨_, rfl⟩
    have hLl : L.length = 25 := by rw [← hL, permN_len, hl]
    have hLw : Ws L := hL ▸ permN_W hw k
    rw [hL] at ha
    have HL := Lib.hid hL
    clear hL
    have hsz := hr.lt
    by_cases hlt : k < 24
    · have hlt' : (k : Int) < 24 := by omega
      have hT := ht0.kept hg hz0 hz
      go_wp2_with (first | (refine wpList_load_arr rfl 100 _ rfl rfl ha Tryd.underlying100 rfl 25 inf_a25 hLl ?_))
      (with_reducible refine (round_any L k wr hLl hLw hlt hT (by omega) (by omega)).mono ?_)
      rintro e w1 ⟨rfl, hb⟩
      replace ha := ha.below hb (by omega)
      replace hr := hr.below hb (by omega)
      replace hg := hg.trans (S' := fun _ => False) (Kept.of_below hb) (by omega) (fun _ _ h => h)
      have hl2 : (roundS L k).length = 25 := by rw [roundS_len, hLl]
      go_wp2_with (refine wpList_store_arr rfl 100 _ _ rfl rfl rfl ha 25 inf_a25 hl2 hLl ?_)
      go_roundw
      case rel => exact ⟨k + 1, by omega, by go_num, by rw [permN, HL.out]; exact ha.setRow _, hr.otherRow _ _ (by omega), hg.setRow _ _ (by omega)⟩
      case measure => simp [intOf]; omega
    · have hk24 : k = 24 := by omega
      have hfin : Hid (L = permute l) := by show L = _; rw [← HL.out, hk24]; rfl
      have hlt' : ¬ ((k : Int) < 24) := by omega
      clear hk24 hlt
      go_wp2_with (first | (refine wpList_load_arr rfl 100 _ rfl rfl ha Tryd.underlying100 rfl 25 inf_a25 hLl ?_) | (refine wpList_store_arr rfl 100 _ _ rfl rfl rfl hr 25 inf_a25 hLl rfl ?_))
      refine bodyPost_arr 2 100 25 Tryd.underlying100 rfl inf_a25 rfl rfl rfl (hr.setRow _) hLl ⟨by rw [hfin.out], ?_⟩
      exact hBv.out ▸ (hg.setRow (B + 1) _ (by omega)).below

end Go.Proofs.YtfaonieaagepjaaDoor
