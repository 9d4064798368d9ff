/- More of XLine: a choice among two or three operations; loads of the present world. -/
import Derived.Test.YteidkdpfjponfaaDoorLine
import Derived.Test.YteidkdpfjponfaaDoorHd
namespace Go.Proofs.YteidkdpfjponfaaDoor
open Go.RowKit
set_option linter.unusedVariables false
set_option linter.unusedSimpArgs false
section
variable {P : Program} {ops : Array Oper} {md : Region.Mode} {Q : Exit → Act → World → Prop}
/-- One operation of those that may come up. -/
structure LqOp (P : Program) (md : Region.Mode) (ops : Array Oper) (Q : Exit → Act → World → Prop) (fuel : Nat) (listed : Array Bool) (i : Nat) (a : Act) (w : World) : Prop where
  out : wpOp P ops Q i (wpAny P md ops Q fuel (listed.setIfInBounds i true)) a w
theorem LqOp.mk' {fuel : Nat} {listed : Array Bool} {a : Act} {w : World} (i : Nat) {oi : Oper} (hi : ops[i]? = some oi) (hg : Region.wanted oi (yielded ops a.tmps) = true)
    (h : ∀ K : Act → World → Prop, (∀ a w, Ln P md ops Q fuel (listed.setIfInBounds i true) a w → K a w) → Oper.wp P oi a w K Q) : LqOp P md ops Q fuel listed i a w :=
  ⟨wpOp_step hi fun K hK => by rw [if_pos hg]; exact h K fun a w hl => hK a w hl.out⟩
theorem Lq.one {fuel : Nat} {listed : Array Bool} {a : Act} {w : World} (i : Nat) (hr : Region.ready md ops listed = [i])
    (h1 : LqOp P md ops Q fuel listed i a w) : Ln P md ops Q (fuel + 1) listed a w :=
  ⟨wpAny_all hr (by simp) fun k hk => by
    rcases List.mem_cons.1 hk with rfl | hk
    · exact h1.out
    · cases hk⟩
theorem Lq.two {fuel : Nat} {listed : Array Bool} {a : Act} {w : World} (i j : Nat) (hr : Region.ready md ops listed = [i, j])
    (h1 : LqOp P md ops Q fuel listed i a w) (h2 : LqOp P md ops Q fuel listed j a w) : Ln P md ops Q (fuel + 1) listed a w :=
  ⟨wpAny_all hr (by simp) fun k hk => by
    rcases List.mem_cons.1 hk with rfl | hk
    · exact h1.out
    · rcases List.mem_cons.1 hk with rfl | hk
      · exact h2.out
      · cases hk⟩
theorem Lq.three {fuel : Nat} {listed : Array Bool} {a : Act} {w : World} (i j k : Nat) (hr : Region.ready md ops listed = [i, j, k])
    (h1 : LqOp P md ops Q fuel listed i a w) (h2 : LqOp P md ops Q fuel listed j a w) (h3 : LqOp P md ops Q fuel listed k a w) : Ln P md ops Q (fuel + 1) listed a w :=
  ⟨wpAny_all hr (by simp) fun m hk => by
    rcases List.mem_cons.1 hk with rfl | hk
    · exact h1.out
    · rcases List.mem_cons.1 hk with rfl | hk
      · exact h2.out
      · rcases List.mem_cons.1 hk with rfl | hk
        · exact h3.out
        · cases hk⟩
theorem LqOp.call {fuel : Nat} {listed : Array Bool} {a : Act} {w : World} (i : Nat) {oi : Oper} {f : FuncId} {args : Array Value} (hi : ops[i]? = some oi)
    (hg : Region.wanted oi (yielded ops a.tmps) = true) (hop : (execOp a.eval oi).run P w = .ok (.enter f args) w)
    (hc : Calls P f args w fun e w' => ∃ v, e = .returned v ∧ Ln P md ops Q fuel (listed.setIfInBounds i true) (a.put oi.dst v) w') : LqOp P md ops Q fuel listed i a w := by
  refine LqOp.mk' i hi hg fun K hK => ?_
  unfold Oper.wp
  rw [hop, Oper.upon_enter]
  refine hc.mono ?_
  rintro e w' ⟨v, rfl, hl⟩
  exact hK _ _ hl
theorem LqOp.made {fuel : Nat} {listed : Array Bool} {a : Act} {w w' : World} (i : Nat) {oi : Oper} (v : Value) (hi : ops[i]? = some oi)
    (hg : Region.wanted oi (yielded ops a.tmps) = true) (hop : (execOp a.eval oi).run P w = .ok (.value v) w')
    (h : Ln P md ops Q fuel (listed.setIfInBounds i true) (a.put oi.dst v) w') : LqOp P md ops Q fuel listed i a w := by
  refine LqOp.mk' i hi hg fun K hK => ?_
  unfold Oper.wp
  rw [hop, Oper.upon_value]
  exact hK _ _ h
/-- A load of one cell, in the present world. -/
theorem LqOp.cell {fuel : Nat} {listed : Array Bool} {a : Act} {w : World} {t : TypeId} {x : Operand} {d : TypeDesc} (i : Nat) {oi : Oper} (v : Value) (p : Addr) (hi : ops[i]? = some oi)
    (hg : Region.wanted oi (yielded ops a.tmps) = true) (ho : oi.op = .load t x) (hx : a.eval x = .pointer (some p)) (hu : P.underlying t = some d)
    (hd : (match d with | .struct _ | .array _ _ => true | _ => false) = false) (hc : w.cell? p = some v)
    (h : Ln P md ops Q fuel (listed.setIfInBounds i true) (a.put oi.dst v) w) : LqOp P md ops Q fuel listed i a w :=
  LqOp.made i v hi hg (exec_load_cell w ho hx hu hd hc) h
end
end Go.Proofs.YteidkdpfjponfaaDoor
