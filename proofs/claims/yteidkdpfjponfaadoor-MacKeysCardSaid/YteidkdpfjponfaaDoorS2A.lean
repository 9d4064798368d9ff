/- sha2.rot, sha2.K, walked. Conditions: the tables; none. -/
import Derived.Test.YteidkdpfjponfaaDoorS2Spec
namespace Go.Proofs.YteidkdpfjponfaaDoor
open Go.RowKit
set_option linter.unusedVariables false
set_option linter.unusedSimpArgs false

theorem qaddw {P : Program} {f : FuncId} {args : Array Value} {w : World} {a n : Nat} {v : Value} (h : Calls P f args (w.drewN (a + n)) fun e w' => e = .returned v ∧ w' = w.drewN (a + n)) :
    Calls P f args (w.drewN (a + n)) fun e w'' => e = .returned v ∧ ∃ m, w'' = w.drewN (a + m) := h.mono fun _ _ ⟨he, hm⟩ => ⟨he, n, hm⟩
theorem and31_neg (n : Int) (h0 : 0 < n) (h1 : n < 32) : bits .and .u64 (18446744073709551616 - n) 31 = 32 - n := by
  obtain ⟨m, rfl⟩ : ∃ m : Nat, n = m := ⟨n.toNat, by omega⟩
  have e : (18446744073709551616 : Int) - (m : Int) = ((18446744073709551616 - m : Nat) : Int) := by omega
  have := u64_and_nat (18446744073709551616 - m) 31 (by omega) (by decide)
  rw [show ((31 : Nat) : Int) = 31 from rfl] at this
  rw [e, this, show (31 : Nat) = 2 ^ 5 - 1 from rfl, Nat.and_two_pow_sub_one_eq_mod]
  omega
theorem rotnw_any (x n : Int) (w : World) (h : W32 x) (hn0 : 0 < n) (hn : n < 32) :
    Calls Tryd.prog 48 #[.int .u32 x, .int .i64 (-n)] w fun e w' => e = .returned (.int .u32 (rotw x (32 - n).toNat)) ∧ w' = w := by
  obtain ⟨hx0, hx⟩ := h
  have ha := and31_neg n hn0 hn
  have hr := rotw_eq x (32 - n) hx0 hx (by omega) (by omega)
  have hw : IntKind.u64.wrap (-n) = 18446744073709551616 - n := by rw [IntKind.wrap_u64]; omega
  have e1 : 32 - (32 - n) = n := by omega
  rw [e1, IntKind.wrap_u32] at hr
  go_enter Tryd.func48, Tryd.ntmps48
  go_wp2
  go_ret
  exact ⟨rfl, rfl⟩
theorem rot2_any (x n : Int) (w : World) (h : W32 x) (hn0 : 0 < n) (hn : n < 32) :
    Calls Tryd.prog 36 #[.int .u32 x, .int .i64 n] w fun e w' => e = .returned (.int .u32 (rw2 x n.toNat)) ∧ w' = w := by
  have e : (32 - n).toNat = 32 - n.toNat := by omega
  have hr := rotnw_any x n w h hn0 hn
  rw [e] at hr
  clear e
  go_enter Tryd.func36, Tryd.ntmps36
  go_wp2_with fail
  (with_reducible refine hr.mono ?_)
  rintro e w1 ⟨rfl, rfl⟩
  go_wp2_with fail
  go_ret
  exact ⟨rfl, rfl⟩
theorem kk2_any (t : Int) (w : World) (ht : Tab w 0 .u32 k2L) :
    Calls Tryd.prog 20 #[.int .i64 t] w fun e w' => e = .returned (.int .u32 (if 0 ≤ t ∧ t < 64 then gt k2L t.toNat else 0)) ∧ w' = w := by
  go_enter Tryd.func20, Tryd.ntmps20
  by_cases h0 : t < 0
  · rw [if_neg (by omega)]
    go_wp2_with fail
    go_ret
    exact ⟨rfl, rfl⟩
  · by_cases h1 : 64 ≤ t
    · rw [if_neg (by omega)]
      go_wp2_with fail
      go_ret
      exact ⟨rfl, rfl⟩
    · rw [if_pos (by omega)]
      obtain ⟨n, rfl⟩ : ∃ n : Nat, t = n := ⟨t.toNat, by omega⟩
      have hc := ht n (by rw [k2_len]; omega)
      have h1' : (n : Int) < 64 := by omega
      go_wp2_with fail
      go_ret
      exact ⟨rfl, rfl⟩
end Go.Proofs.YteidkdpfjponfaaDoor
