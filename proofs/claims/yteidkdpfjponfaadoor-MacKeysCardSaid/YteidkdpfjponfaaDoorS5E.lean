/- The reference of layer 3: rot, constants, K, walked. Conditions: none. -/
import Derived.Test.YteidkdpfjponfaaDoorS5A
namespace Go.Proofs.YteidkdpfjponfaaDoor
open Go.RowKit
set_option linter.unusedVariables false
set_option linter.unusedSimpArgs false

theorem rrot_any (x n : Int) (w : World) (h : W64 x) (hn0 : 0 < n) (hn : n < 64) :
    Calls Tryd.prog 56 #[.int .u64 x, .int .u64 n] w fun e w' => e = .returned (.int .u64 (rr x n.toNat)) ∧ w' = w := by
  obtain ⟨hx0, hx⟩ := h
  have hr := rot_eq x (64 - n) hx0 hx (by omega) (by omega)
  rw [show (64 : Int) - (64 - n) = n by omega] at hr
  have hc : bits .or .u64 (x / 2 ^ n.toNat) (IntKind.u64.wrap (x * 2 ^ (64 - n).toNat)) = rr x n.toNat := by
    rw [rr, show 64 - n.toNat = (64 - n).toNat by omega, ← hr, bv_or, bv_or, BitVec.or_comm]
  have hw : IntKind.u64.wrap (64 - n) = 64 - n := by rw [IntKind.wrap_u64]; omega
  clear hr
  go_enter Tryd.func56, Tryd.ntmps56
  go_wp2
  go_ret
  exact ⟨rfl, rfl⟩

theorem inf_a80r : (Tryd.prog.info? 78).map (·.size) = some 80 := by kernel_rfl
def zr80 : List Int := List.replicate 80 0
theorem zero80r (w : World) : (zeroValue 78).run Tryd.prog w = .ok (.agg (U .u64 zr80)) w := by kernel_rfl
theorem wpList_value {P : Program} {w : World} {ops : Array Oper} {rest : List Oper} {o : Oper} {a : Act} {Q : Exit → Act → World → Prop} (v : Value) (hgd : o.guard = none)
    (hrun : (execOp a.eval o).run P w = .ok (.value v) w) (h : wpList P ops Q rest (a.put o.dst v) w) : wpList P ops Q (o :: rest) a w := by
  refine wpList_plain hgd fun K hK => ?_
  unfold Oper.wp
  rw [hrun]
  exact hK _ _ h
set_option maxRecDepth 100000 in
theorem consts_any (w : World) :
    Calls Tryd.prog 55 #[] w fun e w' => e = .returned (.agg (U .u64 k5L)) ∧ Below w.heap.size w w' := by
  have z80 := zero80r
  have h0 := Arr.new w 78 .u64 zr80
  have hk : Kept w.heap.size (fun _ => False) w (w.alloc (.cells (U .u64 zr80) 78)) := (Kept.refl _ _ _).alloc _ (by omega)
  go_enter Tryd.func55, Tryd.ntmps55
  go_wp2_with (first | (refine wpList_value (o := ⟨some 1, _, _, _, _, _⟩) (.agg (U .u64 k5L)) rfl (by kernel_rfl) ?_) | (refine wpList_store_arr (o := ⟨none, _, _, _, _, _⟩) rfl 78 _ _ rfl rfl rfl h0 80 inf_a80r k5_len rfl ?_))
  exact bodyPost_arr 0 78 80 Tryd.underlying78 rfl inf_a80r rfl rfl rfl (h0.setRow _) k5_len ⟨rfl, (hk.setRow _ _ (by omega)).below⟩
end Go.Proofs.YteidkdpfjponfaaDoor
