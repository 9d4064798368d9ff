/- sha5.rot, sha5.mix, sha5.K, walked. Conditions: the tables; an array of 80 words. -/
import Derived.Test.YteidkdpfjponfaaDoorS5Spec
namespace Go.Proofs.YteidkdpfjponfaaDoor
open Go.RowKit
set_option linter.unusedVariables false
set_option linter.unusedSimpArgs false

theorem inf_q64 : (Tryd.prog.info? 39).map (·.size) = some 1 := by kernel_rfl
theorem qadd {P : Program} {f : FuncId} {args : Array Value} {w : World} {a n : Nat} {v : Value} (h : Calls P f args (w.drewN (a + n)) fun e w' => e = .returned v ∧ w' = w.drewN (a + n)) :
    Calls P f args (w.drewN (a + n)) fun e w'' => e = .returned v ∧ ∃ m, w'' = w.drewN (a + m) := h.mono fun _ _ ⟨he, hm⟩ => ⟨he, n, hm⟩
theorem and63_neg (n : Int) (h0 : 0 < n) (h1 : n < 64) : bits .and .u64 (18446744073709551616 - n) 63 = 64 - n := by
  obtain ⟨m, rfl⟩ : ∃ m : Nat, n = m := ⟨n.toNat, by omega⟩
  have e : (18446744073709551616 : Int) - (m : Int) = ((18446744073709551616 - m : Nat) : Int) := by omega
  have := u64_and_nat (18446744073709551616 - m) 63 (by omega) (by decide)
  rw [show ((63 : Nat) : Int) = 63 from rfl] at this
  rw [e, this, show (63 : Nat) = 2 ^ 6 - 1 from rfl, Nat.and_two_pow_sub_one_eq_mod]
  omega
theorem rotn_any (x n : Int) (w : World) (h : W64 x) (hn0 : 0 < n) (hn : n < 64) :
    Calls Tryd.prog 59 #[.int .u64 x, .int .i64 (-n)] w fun e w' => e = .returned (.int .u64 (rotl x (64 - n).toNat)) ∧ w' = w := by
  obtain ⟨hx0, hx⟩ := h
  have ha := and63_neg n hn0 hn
  have hr := rot_eq x (64 - n) hx0 hx (by omega) (by omega)
  have hw : IntKind.u64.wrap (-n) = 18446744073709551616 - n := by rw [IntKind.wrap_u64]; omega
  have e1 : 64 - (64 - n) = n := by omega
  rw [e1] at hr
  go_enter Tryd.func59, Tryd.ntmps59
  go_wp2
  go_ret
  exact ⟨rfl, rfl⟩
theorem rot5_any (x n : Int) (w : World) (h : W64 x) (hn0 : 0 < n) (hn : n < 64) :
    Calls Tryd.prog 58 #[.int .u64 x, .int .i64 n] w fun e w' => e = .returned (.int .u64 (rr x n.toNat)) ∧ w' = w := by
  have e : (64 - n).toNat = 64 - n.toNat := by omega
  have hr := rotn_any x n w h hn0 hn
  rw [e] at hr
  clear e
  go_enter Tryd.func58, Tryd.ntmps58
  go_wp2_with fail
  (with_reducible refine hr.mono ?_)
  rintro e w1 ⟨rfl, rfl⟩
  go_wp2_with fail
  go_ret
  exact ⟨rfl, rfl⟩
set_option maxHeartbeats 1000000 in
theorem mix5_any (l : List Int) (b T t : Nat) (w : World) (hl : l.length = 80) (hw : Ws l) (h : Arr w b T .u64 l) (h16 : 16 ≤ t) (h80 : t < 80) :
    Calls Tryd.prog 57 #[.pointer (some ⟨b, 0, none⟩), .int .i64 t] w fun e w' => e = .returned (.int .u64 (mixP l t)) ∧ ∃ q, w' = w.drewN q := by
  obtain ⟨a15, e15⟩ : ∃ a, t - 15 = a := ⟨_, rfl⟩
  obtain ⟨a16, e16⟩ : ∃ a, t - 16 = a := ⟨_, rfl⟩
  obtain ⟨a7, e7⟩ : ∃ a, t - 7 = a := ⟨_, rfl⟩
  obtain ⟨a2, e2⟩ : ∃ a, t - 2 = a := ⟨_, rfl⟩
  have f15 : IntKind.i64.wrap ((t : Int) - 15) = (a15 : Int) := by rw [IntWalk.i64_in _ (by omega)]; omega
  have f16 : IntKind.i64.wrap ((t : Int) - 16) = (a16 : Int) := by rw [IntWalk.i64_in _ (by omega)]; omega
  have f7 : IntKind.i64.wrap ((t : Int) - 7) = (a7 : Int) := by rw [IntWalk.i64_in _ (by omega)]; omega
  have f2 : IntKind.i64.wrap ((t : Int) - 2) = (a2 : Int) := by rw [IntWalk.i64_in _ (by omega)]; omega
  have c15 := h.cell a15 (by omega)
  have c16 := h.cell a16 (by omega)
  have c7 := h.cell a7 (by omega)
  have c2 := h.cell a2 (by omega)
  have b15 : (a15 : Int) < 80 := by omega
  have b16 : (a16 : Int) < 80 := by omega
  have b7 : (a7 : Int) < 80 := by omega
  have b2 : (a2 : Int) < 80 := by omega
  have E : Hid (mixP l t = ad (ad (ad (gt l a16) (sg0 (gt l a15))) (gt l a7)) (sg1 (gt l a2))) := by show mixP l t = _; rw [mixP, e15, e16, e7, e2]
  have HW := Lib.hid hw
  clear e15 e16 e7 e2 hw
  go_enter Tryd.func57, Tryd.ntmps57
  go_wp2_with fail
  go_quiet (fail)
  go_wp2_with fail
  go_quiet ((go_at_call 58; exact qadd (rot5_any _ _ _ (HW.out.gt _) (by decide) (by decide))))
  go_wp2_with fail
  go_ret
  rw [E.out]
  exact ⟨rfl, _, World.drewN_drewN _ _ _⟩

end Go.Proofs.YteidkdpfjponfaaDoor
