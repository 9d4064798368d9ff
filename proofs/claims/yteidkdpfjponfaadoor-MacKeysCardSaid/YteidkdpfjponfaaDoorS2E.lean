/- The reference of layer 2: rot, constants, K, walked. Conditions: none. -/
import Derived.Test.YteidkdpfjponfaaDoorS2A
namespace Go.Proofs.YteidkdpfjponfaaDoor
open Go.RowKit
set_option linter.unusedVariables false
set_option linter.unusedSimpArgs false

theorem rrotw_any (x n : Int) (w : World) (h : W32 x) (hn0 : 0 < n) (hn : n < 32) :
    Calls Tryd.prog 38 #[.int .u32 x, .int .u32 n] w fun e w' => e = .returned (.int .u32 (rw2 x n.toNat)) ∧ w' = w := by
  obtain ⟨hx0, hx⟩ := h
  have hr := rotw_eq x (32 - n) hx0 hx (by omega) (by omega)
  rw [show (32 : Int) - (32 - n) = n by omega] at hr
  have hc : bits .or .u32 (x / 2 ^ n.toNat) (IntKind.u32.wrap (x * 2 ^ (32 - n).toNat)) = rw2 x n.toNat := by
    rw [rw2, show 32 - n.toNat = (32 - n).toNat by omega, ← hr, bw_or, bw_or, BitVec.or_comm]
  have hw : IntKind.u32.wrap (32 - n) = 32 - n := by rw [IntKind.wrap_u32]; omega
  rw [IntKind.wrap_u32] at hc
  clear hr
  go_enter Tryd.func38, Tryd.ntmps38
  go_wp2
  go_ret
  exact ⟨rfl, rfl⟩

theorem inf_u32w : (Tryd.prog.info? 27).map (·.size) = some 1 := by kernel_rfl
theorem inf_a64r : (Tryd.prog.info? 55).map (·.size) = some 64 := by kernel_rfl
def zr64 : List Int := List.replicate 64 0
theorem zero64r (w : World) : (zeroValue 55).run Tryd.prog w = .ok (.agg (U .u32 zr64)) w := by kernel_rfl
theorem wpList_valw {P : Program} {w : World} {ops : Array Oper} {rest : List Oper} {o : Oper} {a : Act} {Q : Exit → Act → World → Prop} (v : Value) (hgd : o.guard = none)
    (hrun : (execOp a.eval o).run P w = .ok (.value v) w) (h : wpList P ops Q rest (a.put o.dst v) w) : wpList P ops Q (o :: rest) a w := by
  refine wpList_plain hgd fun K hK => ?_
  unfold Oper.wp
  rw [hrun]
  exact hK _ _ h
set_option maxRecDepth 100000 in
theorem constsw_any (w : World) :
    Calls Tryd.prog 37 #[] w fun e w' => e = .returned (.agg (U .u32 k2L)) ∧ Below w.heap.size w w' := by
  have z64 := zero64r
  have h0 := Arr.new w 55 .u32 zr64
  have hk : Kept w.heap.size (fun _ => False) w (w.alloc (.cells (U .u32 zr64) 55)) := (Kept.refl _ _ _).alloc _ (by omega)
  go_enter Tryd.func37, Tryd.ntmps37
  go_wp2_with (first | (refine wpList_valw (o := ⟨some 1, _, _, _, _, _⟩) (.agg (U .u32 k2L)) rfl (by kernel_rfl) ?_) | (refine wpList_store_arr (o := ⟨none, _, _, _, _, _⟩) rfl 55 _ _ rfl rfl rfl h0 64 inf_a64r k2_len rfl ?_))
  exact bodyPost_arr 0 55 64 Tryd.underlying55 rfl inf_a64r rfl rfl rfl (h0.setRow _) k2_len ⟨rfl, (hk.setRow _ _ (by omega)).below⟩
theorem rkk2_any (t : Int) (w : World) :
    Calls Tryd.prog 21 #[.int .i64 t] w fun e w' => e = .returned (.int .u32 (if 0 ≤ t ∧ t < 64 then gt k2L t.toNat else 0)) ∧ Below w.heap.size w w' := by
  by_cases h0 : t < 0
  · rw [if_neg (by omega)]
    go_enter Tryd.func21, Tryd.ntmps21
    go_wp2_with fail
    go_ret
    exact ⟨rfl, Below.refl _ _⟩
  · by_cases h1 : 63 < t
    · rw [if_neg (by omega)]
      go_enter Tryd.func21, Tryd.ntmps21
      go_wp2_with fail
      go_ret
      exact ⟨rfl, Below.refl _ _⟩
    · rw [if_pos (by omega)]
      obtain ⟨n, rfl⟩ : ∃ n : Nat, t = n := ⟨t.toNat, by omega⟩
      have hix := run_index_arr (P := Tryd.prog) Tryd.underlying55 Tryd.underlying27 inf_u32w k2_len n (by omega)
      go_enter Tryd.func21, Tryd.ntmps21
      go_wp2_with fail
      (with_reducible refine (constsw_any w).mono ?_)
      rintro e w1 ⟨rfl, hb⟩
      go_wp2_with fail
      go_ret
      exact ⟨rfl, hb⟩

end Go.Proofs.YteidkdpfjponfaaDoor
