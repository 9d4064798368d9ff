import Derived.Test.YteidkdpfjponfaaDoorInf
import Derived.Test.YteidkdpfjponfaaDoorPart
import Derived.Lib.SliceRun
namespace Go.Proofs.YteidkdpfjponfaaDoor
open Go.RowKit
set_option linter.unusedVariables false
set_option linter.unusedSimpArgs false

/-! ### bytes.Clone -/
theorem clone_any (l : List Int) (A : Option Addr) (c B : Nat) (w : World) (hr : Rd w B .u8 A l) (hB : B ≤ w.heap.size) (hl : l.length ≤ 140737488355328) (hA : A = none → c = 0) :
    Calls Tryd.prog 52 #[.slice A l.length c] w fun e w' => ∃ A' c', e = .returned (.slice A' l.length c') ∧ Own w' w.heap.size 5 .u8 (.slice A' l.length c') l ∧ Below w.heap.size w w' := by
  have q22 : ∀ (w : World) (a : Option Addr) (n c n' c' : Nat), (binOp .eql 22 (.slice a n c) (.slice none n' c')).run Tryd.prog w = .ok (.bool a.isNone) w := fun w a n c n' c' => Lib.run_eql_slice_nil w _ _ a n c n' c' Tryd.underlying22
  go_enter Tryd.func52, Tryd.ntmps52
  cases A with
  | none =>
    have hl0 : l = [] := by
      rcases Nat.eq_zero_or_pos l.length with h | h
      · exact List.eq_nil_of_length_eq_zero h
      · obtain ⟨ad, h1, _⟩ := hr h; cases h1
    obtain rfl := hA rfl
    subst hl0
    go_wp2_with fail
    go_ret
    exact ⟨none, 0, rfl, Own.nil _ _ _ _, Below.refl _ _⟩
  | some ad =>
    have hO := Own.lit (b := w.heap.size) (e := 5) (k := .u8) w [] (Nat.le_refl _) (Nat.zero_le _)
    have hR := hr.alloc hB (.cells #[] 5)
    have hlm : l.length ≤ maxLen := Nat.le_trans hl (by decide)
    go_wp2_with (at_builtin; refine wpList_append_nums rfl (.tmp 5) (.tmp 6) 22 5 .u8 1 rfl Tryd.underlying22 inf_u8 hO hR rfl rfl rfl (by simp; exact hl) (by simpa using hlm) (by simp) ?_; intro A' c' w1 hO1 hg1 hf1)
    simp only [List.nil_append, List.length_nil, Nat.zero_add] at hO1
    go_ret
    refine ⟨A', c', by simp, hO1, ?_⟩
    exact ((Kept.refl w.heap.size (fun _ => False) w).alloc (.cells #[] 5) (by omega)).grown hg1 (by simp) (fun g hg => .inl (by have h : some w.heap.size = some g := hg; injection h with h; omega)) |>.below

end Go.Proofs.YteidkdpfjponfaaDoor
