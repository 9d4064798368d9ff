/- More of XLx: a choice among two or three operations. -/
import Derived.Test.YtfaonieaagepjaaDoorZA
namespace Go.Proofs.YtfaonieaagepjaaDoor
open Go.RowKit
set_option linter.unusedVariables false
set_option linter.unusedSimpArgs false
section
variable {P : Program} {ops : Array Oper} {md : Region.Mode} {Q : Exit → Act → World → Prop} {S : World → Prop}
/-- One operation of those that may come up. -/
structure LxOp (P : Program) (md : Region.Mode) (ops : Array Oper) (S : World → Prop) (Q : Exit → Act → World → Prop) (fuel : Nat) (listed : Array Bool) (i : Nat) (a : Act) (w : World) : Prop where
  out : S w → wpOp P ops Q i (fun a' w' => S w' ∧ wpAnyS P md ops S Q fuel (listed.setIfInBounds i true) a' w') a w
theorem LxOp.mk' {fuel : Nat} {listed : Array Bool} {a : Act} {w : World} (i : Nat) {oi : Oper} (hi : ops[i]? = some oi) (hg : Region.wanted oi (yielded ops a.tmps) = true)
    (h : S w → ∀ K : Act → World → Prop, (∀ a w, S w → Lx P md ops S Q fuel (listed.setIfInBounds i true) a w → K a w) → Oper.wp P oi a w K Q) : LxOp P md ops S Q fuel listed i a w := by
  refine ⟨fun hS => ?_⟩
  unfold Go.wpOp
  simp only [hi, hg, if_true]
  exact .inl (h hS _ fun a w hs hl => ⟨hs, hl.out hs⟩)
theorem Lx.two {fuel : Nat} {listed : Array Bool} {a : Act} {w : World} (i j : Nat) (hr : Region.ready md ops listed = [i, j])
    (h1 : LxOp P md ops S Q fuel listed i a w) (h2 : LxOp P md ops S Q fuel listed j a w) : Lx P md ops S Q (fuel + 1) listed a w := by
  refine ⟨fun hS => ⟨fun h0 => (by rw [hr] at h0; cases h0), fun k hk => ?_⟩⟩
  rw [hr] at hk
  rcases List.mem_cons.1 hk with rfl | hk
  · exact h1.out hS
  · rcases List.mem_cons.1 hk with rfl | hk
    · exact h2.out hS
    · cases hk
theorem Lx.three {fuel : Nat} {listed : Array Bool} {a : Act} {w : World} (i j k : Nat) (hr : Region.ready md ops listed = [i, j, k])
    (h1 : LxOp P md ops S Q fuel listed i a w) (h2 : LxOp P md ops S Q fuel listed j a w) (h3 : LxOp P md ops S Q fuel listed k a w) : Lx P md ops S Q (fuel + 1) listed a w := by
  refine ⟨fun hS => ⟨fun h0 => (by rw [hr] at h0; cases h0), fun m hk => ?_⟩⟩
  rw [hr] at hk
  rcases List.mem_cons.1 hk with rfl | hk
  · exact h1.out hS
  · rcases List.mem_cons.1 hk with rfl | hk
    · exact h2.out hS
    · rcases List.mem_cons.1 hk with rfl | hk
      · exact h3.out hS
      · cases hk
theorem LxOp.call {fuel : Nat} {listed : Array Bool} {a : Act} {w : World} (i : Nat) {oi : Oper} {f : FuncId} {args : Array Value} (hi : ops[i]? = some oi)
    (hg : Region.wanted oi (yielded ops a.tmps) = true) (hop : (execOp a.eval oi).run P w = .ok (.enter f args) w)
    (hc : S w → Calls P f args w fun e w' => ∃ v, e = .returned v ∧ S w' ∧ Lx P md ops S Q fuel (listed.setIfInBounds i true) (a.put oi.dst v) w') : LxOp P md ops S Q fuel listed i a w := by
  refine LxOp.mk' i hi hg fun hS K hK => ?_
  unfold Oper.wp
  rw [hop, Oper.upon_enter]
  refine (hc hS).mono ?_
  rintro e w' ⟨v, rfl, hs, hl⟩
  exact hK _ _ hs hl
theorem LxOp.made {fuel : Nat} {listed : Array Bool} {a : Act} {w w' : World} (i : Nat) {oi : Oper} (v : Value) (hi : ops[i]? = some oi)
    (hg : Region.wanted oi (yielded ops a.tmps) = true) (hop : (execOp a.eval oi).run P w = .ok (.value v) w') (hS' : S w → S w')
    (h : Lx P md ops S Q fuel (listed.setIfInBounds i true) (a.put oi.dst v) w') : LxOp P md ops S Q fuel listed i a w := by
  refine LxOp.mk' i hi hg fun hS K hK => ?_
  unfold Oper.wp
  rw [hop, Oper.upon_value]
  exact hK _ _ (hS' hS) h
end
end Go.Proofs.YtfaonieaagepjaaDoor
