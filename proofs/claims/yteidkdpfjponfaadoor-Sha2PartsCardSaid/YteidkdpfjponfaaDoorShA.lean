import Derived.Test.YteidkdpfjponfaaDoorRow
import Derived.Test.YteidkdpfjponfaaDoorHold
import Derived.Test.YteidkdpfjponfaaDoorChecked
namespace Go.Proofs.YteidkdpfjponfaaDoor
open Go.RowKit
set_option linter.unusedVariables false
set_option linter.unusedSimpArgs false

/-! ### Whether two rows are the same -/
set_option maxHeartbeats 1000000 in
theorem same_any (w : World) (A A' : Option Addr) (l m : List Int) (c c' B B' : Nat) (hA : Rd w B .u8 A l) (hB : Rd w B' .u8 A' m) (hm : m.length ≤ 9223372036854775807) :
    Calls Tryd.prog 15 #[.slice A l.length c, .slice A' m.length c'] w fun e w' => e = .returned (.bool (decide (l = m))) ∧ ∃ q, w' = w.drewN q := by
  go_enter Tryd.func15, Tryd.ntmps15
  by_cases hne : l.length = m.length
  · go_wp2_with fail
    go_loopw [5] (fun i wr => ∃ j : Nat, i = .int .i64 j ∧ j ≤ l.length ∧ (∀ p, p < j → gt l p = gt m p) ∧ ∃ q, wr = w.drewN q) (fun i _ => (l.length - intOf i).toNat)
    case atStart => exact ⟨0, rfl, Nat.zero_le _, fun p hp => absurd hp (by omega), 0, rfl⟩
    case round =>
      obtain ⟨j, rfl, hj, hsame, q, rfl⟩ := hrel
      by_cases hlt : j < l.length
      · have hltI : j < m.length := by omega
        obtain ⟨a, rfl, _, hca⟩ := hA.at_ hlt
        obtain ⟨a', rfl, _, hcb⟩ := hB.at_ (i := j) (by omega)
        by_cases he : gt l j = gt m j
        · rw [he] at hca
          go_wp2_with fail
          go_quiet (fail)
          go_wp2_with fail
          go_roundw
          case rel => exact ⟨j + 1, by go_num, by omega, fun p hp => by
            rcases Nat.lt_or_ge p j with h | h
            · exact hsame p h
            · rw [show p = j by omega]; exact he, _, rfl⟩
          case measure => simp [intOf]; omega
        · have hb : (gt l j == gt m j) = false := beq_eq_false_iff_ne.2 he
          go_wp2_with fail
          go_quiet (fail)
          go_wp2_with fail
          go_ret
          exact ⟨by rw [decide_eq_false (fun e => he (by rw [e]))]; rfl, q + nq, by simp⟩
      · have hltI : ¬ (j < m.length) := by omega
        go_wp2_with fail
        go_ret
        have hlm : l = m := ext_gt l m hne (fun i hi => hsame i (by omega))
        exact ⟨by rw [decide_eq_true hlm]; rfl, q, rfl⟩
  · go_wp2_with fail
    go_ret
    exact ⟨by rw [decide_eq_false (fun e => hne (by rw [e]))]; rfl, 0, rfl⟩

end Go.Proofs.YteidkdpfjponfaaDoor
