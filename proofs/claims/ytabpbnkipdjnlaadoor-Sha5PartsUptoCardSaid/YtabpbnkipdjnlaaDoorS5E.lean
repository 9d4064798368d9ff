/- The reference of layer 3: rot, constants, K, walked. Conditions: none. -/
import Derived.Test.YtabpbnkipdjnlaaDoorS5A
namespace Go.Proofs.YtabpbnkipdjnlaaDoor
open Go.RowKit
set_option linter.unusedVariables false
set_option linter.unusedSimpArgs false

theorem rrot_any (x n : Int) (w : World) (h : W64 x) (hn0 : 0 < n) (hn : n < 64) :
    Calls Tryd.prog 48 #[.int .u64 x, .int .u64 n] w fun e w' => e = .returned (.int .u64 (rr x n.toNat)) ∧ w' = w := by
  obtain ⟨hx0, hx⟩ := h
  have hr := rot_eq x (64 - n) hx0 hx (by omega) (by omega)
  rw [show (64 : Int) - (64 - n) = n by omega] at hr
  have hc : bits .or .u64 (x / 2 ^ n.toNat) (IntKind.u64.wrap (x * 2 ^ (64 - n).toNat)) = rr x n.toNat := by
    rw [rr, show 64 - n.toNat = (64 - n).toNat by omega, ← hr, bv_or, bv_or, BitVec.or_comm]
  have hw : IntKind.u64.wrap (64 - n) = 64 - n := by rw [IntKind.wrap_u64]; omega
  clear hr
  go_enter Tryd.func48, Tryd.ntmps48
  go_wp2
  go_ret
  exact ⟨rfl, rfl⟩

theorem inf_a80r : (Tryd.prog.info? 66).map (·.size) = some 80 := by kernel_rfl
def zr80 : List Int := List.replicate 80 0
theorem zero80r (w : World) : (zeroValue 66).run Tryd.prog w = .ok (.agg (U .u64 zr80)) w := by kernel_rfl
theorem wpList_value {P : Program} {w : World} {ops : Array Oper} {rest : List Oper} {o : Oper} {a : Act} {Q : Exit → Act → World → Prop} (v : Value) (hgd : o.guard = none)
    (hrun : (execOp a.eval o).run P w = .ok (.value v) w) (h : wpList P ops Q rest (a.put o.dst v) w) : wpList P ops Q (o :: rest) a w := by
  refine wpList_plain hgd fun K hK => ?_
  unfold Oper.wp
  rw [hrun]
  exact hK _ _ h
set_option maxRecDepth 100000 in
theorem consts_any (w : World) :
    Calls Tryd.prog 43 #[] w fun e w' => e = .returned (.agg (U .u64 k5L)) ∧ Below w.heap.size w w' := by
  have z80 := zero80r
  have h0 := Arr.new w 66 .u64 zr80
  have hk : Kept w.heap.size (fun _ => False) w (w.alloc (.cells (U .u64 zr80) 66)) := (Kept.refl _ _ _).alloc _ (by omega)
  go_enter Tryd.func43, Tryd.ntmps43
  go_wp2_with (first | (refine wpList_value (o := ⟨some 1, _, _, _, _, _⟩) (.agg (U .u64 k5L)) rfl (by kernel_rfl) ?_) | (refine wpList_store_arr (o := ⟨none, _, _, _, _, _⟩) rfl 66 _ _ rfl rfl rfl h0 80 inf_a80r k5_len rfl ?_))
  exact bodyPost_arr 0 66 80 Tryd.underlying66 rfl inf_a80r rfl rfl rfl (h0.setRow _) k5_len ⟨rfl, (hk.setRow _ _ (by omega)).below⟩
theorem rkk_any (t : Int) (w : World) :
    Calls Tryd.prog 33 #[.int .i64 t] w fun e w' => e = .returned (.int .u64 (if 0 ≤ t ∧ t < 80 then gt k5L t.toNat else 0)) ∧ Below w.heap.size w w' := by
  by_cases h0 : t < 0
  · rw [if_neg (by omega)]
    go_enter Tryd.func33, Tryd.ntmps33
    go_wp2_with fail
    go_ret
    exact ⟨rfl, Below.refl _ _⟩
  · by_cases h1 : 79 < t
    · rw [if_neg (by omega)]
      go_enter Tryd.func33, Tryd.ntmps33
      go_wp2_with fail
      go_ret
      exact ⟨rfl, Below.refl _ _⟩
    · rw [if_pos (by omega)]
      obtain ⟨n, rfl⟩ : ∃ n : Nat, t = n := ⟨t.toNat, by omega⟩
      have hix := run_index_arr (P := Tryd.prog) Tryd.underlying66 Tryd.underlying22 inf_u64 k5_len n (by omega)
      go_enter Tryd.func33, Tryd.ntmps33
      go_wp2_with fail
      (with_reducible refine (consts_any w).mono ?_)
      rintro e w1 ⟨rfl, hb⟩
      go_wp2_with fail
      go_ret
      exact ⟨rfl, hb⟩

end Go.Proofs.YtabpbnkipdjnlaaDoor
