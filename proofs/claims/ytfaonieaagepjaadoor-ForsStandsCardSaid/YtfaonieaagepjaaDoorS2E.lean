/- The reference of layer 2: rot, constants, K, walked. Conditions: none. -/
import Derived.Test.YtfaonieaagepjaaDoorS2A
namespace Go.Proofs.YtfaonieaagepjaaDoor
open Go.RowKit
set_option linter.unusedVariables false
set_option linter.unusedSimpArgs false

theorem rrotw_any (x n : Int) (w : World) (h : W32 x) (hn0 : 0 < n) (hn : n < 32) :
    Calls Tryd.prog 86 #[.int .u32 x, .int .u32 n] w fun e w' => e = .returned (.int .u32 (rw2 x n.toNat)) ∧ w' = w := by
  obtain ⟨hx0, hx⟩ := h
  have hr := rotw_eq x (32 - n) hx0 hx (by omega) (by omega)
  rw [show (32 : Int) - (32 - n) = n by omega] at hr
  have hc : bits .or .u32 (x / 2 ^ n.toNat) (IntKind.u32.wrap (x * 2 ^ (32 - n).toNat)) = rw2 x n.toNat := by
    rw [rw2, show 32 - n.toNat = (32 - n).toNat by omega, ← hr, bw_or, bw_or, BitVec.or_comm]
  have hw : IntKind.u32.wrap (32 - n) = 32 - n := by rw [IntKind.wrap_u32]; omega
  rw [IntKind.wrap_u32] at hc
  clear hr
  go_enter Tryd.func86, Tryd.ntmps86
  go_wp2
  go_ret
  exact ⟨rfl, rfl⟩

theorem inf_u32w : (Tryd.prog.info? 26).map (·.size) = some 1 := by kernel_rfl
theorem inf_a64r : (Tryd.prog.info? 111).map (·.size) = some 64 := by kernel_rfl
def zr64 : List Int := List.replicate 64 0
theorem zero64r (w : World) : (zeroValue 111).run Tryd.prog w = .ok (.agg (U .u32 zr64)) w := by kernel_rfl
theorem wpList_valw {P : Program} {w : World} {ops : Array Oper} {rest : List Oper} {o : Oper} {a : Act} {Q : Exit → Act → World → Prop} (v : Value) (hgd : o.guard = none)
    (hrun : (execOp a.eval o).run P w = .ok (.value v) w) (h : wpList P ops Q rest (a.put o.dst v) w) : wpList P ops Q (o :: rest) a w := by
  refine wpList_plain hgd fun K hK => ?_
  unfold Oper.wp
  rw [hrun]
  exact hK _ _ h
set_option maxRecDepth 100000 in
theorem constsw_any (w : World) :
    Calls Tryd.prog 85 #[] w fun e w' => e = .returned (.agg (U .u32 k2L)) ∧ Below w.heap.size w w' := by
  have z64 := zero64r
  have h0 := Arr.new w 111 .u32 zr64
  have hk : Kept w.heap.size (fun _ => False) w (w.alloc (.cells (U .u32 zr64) 111)) := (Kept.refl _ _ _).alloc _ (by omega)
  go_enter Tryd.func85, Tryd.ntmps85
  go_wp2_with (first | (refine wpList_valw (o := ⟨some 1, _, _, _, _, _⟩) (.agg (U .u32 k2L)) rfl (by kernel_rfl) ?_) | (refine wpList_store_arr (o := ⟨none, _, _, _, _, _⟩) rfl 111 _ _ rfl rfl rfl h0 64 inf_a64r k2_len rfl ?_))
  exact bodyPost_arr 0 111 64 Tryd.underlying111 rfl inf_a64r rfl rfl rfl (h0.setRow _) k2_len ⟨rfl, (hk.setRow _ _ (by omega)).below⟩
end Go.Proofs.YtfaonieaagepjaaDoor
