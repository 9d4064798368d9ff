/- sha2.rot, sha2.K, walked. Conditions: the tables; none. -/
import Derived.Test.YtfaonieaagepjaaDoorS2Spec
namespace Go.Proofs.YtfaonieaagepjaaDoor
open Go.RowKit
set_option linter.unusedVariables false
set_option linter.unusedSimpArgs false

theorem qaddw {P : Program} {f : FuncId} {args : Array Value} {w : World} {a n : Nat} {v : Value} (h : Calls P f args (w.drewN (a + n)) fun e w' => e = .returned v ∧ w' = w.drewN (a + n)) :
    Calls P f args (w.drewN (a + n)) fun e w'' => e = .returned v ∧ ∃ m, w'' = w.drewN (a + m) := h.mono fun _ _ ⟨he, hm⟩ => ⟨he, n, hm⟩
theorem and31_neg (n : Int) (h0 : 0 < n) (h1 : n < 32) : bits .and .u64 (18446744073709551616 - n) 31 = 32 - n := by
  obtain ⟨m, rfl⟩ : ∃ m : Nat, n = m := ⟨n.toNat, by omega⟩
  have e : (18446744073709551616 : Int) - (m : Int) = ((18446744073709551616 - m : Nat) : Int) := by omega
  have := u64_and_nat (18446744073709551616 - m) 31 (by omega) (by decide)
  rw [show ((31 : Nat) : Int) = 31 from rfl] at this
  rw [e, this, show (31 : Nat) = 2 ^ 5 - 1 from rfl, Nat.and_two_pow_sub_one_eq_mod]
  omega
theorem rotnw_any (x n : Int) (w : World) (h : W32 x) (hn0 : 0 < n) (hn : n < 32) :
    Calls Tryd.prog 93 #[.int .u32 x, .int .i64 (-n)] w fun e w' => e = .returned (.int .u32 (rotw x (32 - n).toNat)) ∧ w' = w := by
  obtain ⟨hx0, hx⟩ := h
  have ha := and31_neg n hn0 hn
  have hr := rotw_eq x (32 - n) hx0 hx (by omega) (by omega)
  have hw : IntKind.u64.wrap (-n) = 18446744073709551616 - n := by rw [IntKind.wrap_u64]; omega
  have e1 : 32 - (32 - n) = n := by omega
  rw [e1, IntKind.wrap_u32] at hr
  go_enter Tryd.func93, Tryd.ntmps93
  go_wp2
  go_ret
  exact ⟨rfl, rfl⟩
theorem rot2_any (x n : Int) (w : World) (h : W32 x) (hn0 : 0 < n) (hn : n < 32) :
    Calls Tryd.prog 89 #[.int .u32 x, .int .i64 n] w fun e w' => e = .returned (.int .u32 (rw2 x n.toNat)) ∧ w' = w := by
  have e : (32 - n).toNat = 32 - n.toNat := by omega
  have hr := rotnw_any x n w h hn0 hn
  rw [e] at hr
  clear e
  go_enter Tryd.func89, Tryd.ntmps89
  go_wp2_with fail
  (with_reducible refine hr.mono ?_)
  rintro e w1 ⟨rfl, rfl⟩
  go_wp2_with fail
  go_ret
  exact ⟨rfl, rfl⟩
end Go.Proofs.YtfaonieaagepjaaDoor
