import Derived.Test.YtfaonieaagepjaaDoorProg
import Derived.Test.YtfaonieaagepjaaDoorKecSpec
namespace Go.Proofs.YtfaonieaagepjaaDoor
open Go.RowKit
set_option maxRecDepth 100000
set_option linter.unusedVariables false
set_option linter.unusedSimpArgs false

/-- The two tables of layer 4 lie as the text lays them. -/
def KTab (w : World) : Prop := Tab w 4 .u64 rcL ∧ Tab w 3 .i64 turnsL

theorem rotl_any (x k : Int) (w : World) (h : W64 x) (hk0 : 0 ≤ k) (hk : k < 64) :
    Calls Tryd.prog 95 #[.int .u64 x, .int .i64 k] w fun e w' => e = .returned (.int .u64 (rotl x k.toNat)) ∧ w' = w := by
  obtain ⟨hx0, hx⟩ := h
  have ha := and63 k hk0 hk
  have hr := rot_eq x k hx0 hx hk0 hk
  go_enter Tryd.func95, Tryd.ntmps95
  go_wp2
  go_ret
  exact ⟨rfl, rfl⟩

set_option maxRecDepth 100000 in
set_option maxHeartbeats 1000000 in
theorem theta_any (l : List Int) (b T : Nat) (w : World) (hl : l.length = 25) (h : Arr w b T .u64 l) :
    Calls Tryd.prog 94 #[.pointer (some ⟨b, 0, none⟩)] w fun e w' => e = .returned (.tuple #[]) ∧ Arr w' b T .u64 (theta l) ∧ Kept w.heap.size (· = b) w w' := by
  have hb := h.lt
  go_enter Tryd.func94, Tryd.ntmps94
  go_wp2
  obtain ⟨B, hB⟩ : ∃ B, w.heap.size = B := ⟨_, rfl⟩
  rw [hB]
  go_loopw [8] (fun i wr => ∃ k : Nat, k ≤ 25 ∧ i = .int .i64 k ∧ Arr wr B 118 .u64 (thC l k) ∧ Arr wr b T .u64 l ∧ Kept B (· = b) w wr) (fun i _ => (25 - intOf i).toNat)
  case atStart => exact ⟨0, by omega, rfl, by subst hB; exact Arr.new w 118 .u64 (thC l 0), h.alloc _, (Kept.refl _ _ _).alloc _ (by omega)⟩
  case round =>
    obtain ⟨k, hk, rfl, hc, ha, hg⟩ := hrel
    by_cases hlt : k < 25
    · have hck := ha.cell k (by omega)
      have hcm := hc.cell (k % 5) (by rw [thC_len]; omega)
      have hcf := hc.free (k % 5)
      have hlt' : (k : Int) < 25 := by omega
      go_wp2_with fail
      go_quiet (fail)
      go_wp2
      go_roundw
      case rel => exact ⟨k + 1, by omega, by go_num, (hc.drewN nq).set _ _, (ha.drewN nq).other _ _ _ (by omega), (hg.drewN nq).set _ _ _ (by omega)⟩
      case measure => simp [intOf]; omega
    · have hk25 : Hid (k = 25) := by show k = 25; omega
      clear hk
      go_wp2
      obtain ⟨c, hcc⟩ : ∃ c, thC l k = c := ⟨_, rfl⟩
      have hcw : Ws c := hcc ▸ thC_W l k
      rw [hcc] at hc
      have HC : Hid (thC l 25 = c) := by rw [← hcc, hk25.out]; rfl
      clear hcc
      go_loopw [22] (fun i wr => ∃ k : Nat, k ≤ 25 ∧ i = .int .i64 k ∧ Arr wr B 118 .u64 c ∧ Arr wr b T .u64 (thA c l k) ∧ Kept B (· = b) w wr) (fun i _ => (25 - intOf i).toNat)
      case atStart => exact ⟨0, by omega, rfl, hc, ha, hg⟩
      case round =>
        clear hc ha hg
        obtain ⟨k, hk, rfl, hc, ha, hg⟩ := hrel
        have hcl : c.length = 5 := by rw [← HC.out, thC_len]
        by_cases hlt : k < 25
        · have hck := ha.cell k (by rw [thA_len]; omega)
          have hc4 := hc.cell ((k % 5 + 4) % 5) (by omega)
          have hc1 := hc.cell ((k % 5 + 1) % 5) (by omega)
          have haf := ha.free k
          have hlt' : (k : Int) < 25 := by omega
          obtain ⟨m4, e4⟩ : ∃ m : Nat, (k % 5 + 4) % 5 = m := ⟨_, rfl⟩
          obtain ⟨m1, e1⟩ : ∃ m : Nat, (k % 5 + 1) % 5 = m := ⟨_, rfl⟩
          have b4 : (m4 : Int) < 5 := by omega
          have b1 : (m1 : Int) < 5 := by omega
          have f4 : (IntKind.i64.wrap ((k : Int) % 5 + 4)).tmod 5 = (m4 : Int) := wtmod _ 5 m4 (by omega) (by omega) (by omega)
          have f1 : (IntKind.i64.wrap ((k : Int) % 5 + 1)).tmod 5 = (m1 : Int) := wtmod _ 5 m1 (by omega) (by omega) (by omega)
          have hr := rotl_any (gt c m1) 1 wr.drew (hcw.gt _) (by decide) (by decide)
          rw [e4] at hc4
          rw [e1] at hc1
          clear hcw
          go_wp2_with fail
          go_still_tail 20, (by kernel_rfl)
          still_call hr
          repeat still_step
          refine wpStill_nil ?_
          change wpList _ _ _ _ _ wr.drew
          go_wp2
          go_roundw
          case rel => exact ⟨k + 1, by omega, by go_num, hc.drew.other _ _ _ (by omega), by have := ha.drew.set k (bits .xor .u64 (gt (thA c l k) k) (bits .xor .u64 (gt c m4) (rotl (gt c m1) 1))); rw [thA, e4, e1]; exact this, hg.drew.set _ _ _ (by omega)⟩
          case measure => simp [intOf]; omega
        · have hk25 : k = 25 := by omega
          go_wp2
          go_end0
          refine ⟨rfl, ?_, hB ▸ hg⟩
          rw [theta, HC.out, ← hk25]; exact ha

end Go.Proofs.YtfaonieaagepjaaDoor
