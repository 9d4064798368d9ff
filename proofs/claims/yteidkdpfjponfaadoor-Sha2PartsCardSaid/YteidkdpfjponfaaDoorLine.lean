/- A region whose order is open, walked in one order of the prover's choice: what yields the same in whatever world is taken first, a call stands alone when its turn comes. The facts are left to the kernel. -/
import Derived.Test.YteidkdpfjponfaaDoorRp
namespace Go.Proofs.YteidkdpfjponfaaDoor
open Go.RowKit
set_option linter.unusedVariables false
set_option linter.unusedSimpArgs false
section
variable {P : Program} {ops : Array Oper} {md : Region.Mode} {Q : Exit → Act → World → Prop}
/-- The rest of the region, behind a name that no tactic looks through. -/
structure Ln (P : Program) (md : Region.Mode) (ops : Array Oper) (Q : Exit → Act → World → Prop) (fuel : Nat) (listed : Array Bool) (a : Act) (w : World) : Prop where
  out : wpAny P md ops Q fuel listed a w
theorem Ln.enter {id : Nat} {a : Act} {w : World} (n : Nat) (hn : ops.size = n) (hm : P.follows .mixedOrders = true)
    (h : Ln P .any ops Q n (Array.replicate n false) a w.drew) : (Code.region id ops true).wp P Q a w := by
  subst hn
  exact wp_region_any hm h.out
/-- It yields v in whatever world. -/
theorem Ln.val {fuel : Nat} {listed : Array Bool} {a : Act} {w : World} (i : Nat) {oi : Oper} (v : Value) (hi : ops[i]? = some oi)
    (hs : Region.noSelect ops = true) (hf : Region.free md ops listed i = true) (hr : (Region.ready md ops listed).contains i = true)
    (hQ : ∀ c a w, Q (.panic c) (a.put oi.dst v) w → Q (.panic c) a w) (hg : Region.wanted oi (yielded ops a.tmps) = true) (hv : ∀ w, (execOp a.eval oi).run P w = .ok (.value v) w)
    (h : Ln P md ops Q fuel (listed.setIfInBounds i true) (a.put oi.dst v) w) : Ln P md ops Q (fuel + 1) listed a w :=
  ⟨wpAny_take hi hs hf hr hQ (.inl ⟨hg, hv⟩) h.out⟩
/-- It is not wanted. -/
theorem Ln.no {fuel : Nat} {listed : Array Bool} {a : Act} {w : World} (i : Nat) {oi : Oper} (hi : ops[i]? = some oi)
    (hs : Region.noSelect ops = true) (hf : Region.free md ops listed i = true) (hr : (Region.ready md ops listed).contains i = true)
    (hQ : ∀ c a w, Q (.panic c) (a.put oi.dst undef) w → Q (.panic c) a w) (hg : Region.wanted oi (yielded ops a.tmps) = false)
    (h : Ln P md ops Q fuel (listed.setIfInBounds i true) (a.put oi.dst undef) w) : Ln P md ops Q (fuel + 1) listed a w :=
  ⟨wpAny_take hi hs hf hr hQ (.inr ⟨hg, rfl⟩) h.out⟩
/-- It stands alone: whatever it does to the world. -/
theorem Ln.one {fuel : Nat} {listed : Array Bool} {a : Act} {w : World} (i : Nat) {oi : Oper} (hi : ops[i]? = some oi)
    (hr : Region.ready md ops listed = [i]) (hg : Region.wanted oi (yielded ops a.tmps) = true)
    (h : ∀ K : Act → World → Prop, (∀ a w, Ln P md ops Q fuel (listed.setIfInBounds i true) a w → K a w) → Oper.wp P oi a w K Q) : Ln P md ops Q (fuel + 1) listed a w := by
  refine ⟨wpAny_ready hr (by simp) (AllReady.cons hi (fun K hK => ?_) AllReady.nil)⟩
  rw [if_pos hg]
  exact h K fun a w hl => hK a w hl.out
/-- A call, alone. -/
theorem Ln.call {fuel : Nat} {listed : Array Bool} {a : Act} {w : World} (i : Nat) {oi : Oper} {f : FuncId} {args : Array Value} (hi : ops[i]? = some oi)
    (hr : Region.ready md ops listed = [i]) (hg : Region.wanted oi (yielded ops a.tmps) = true) (hop : (execOp a.eval oi).run P w = .ok (.enter f args) w)
    (hc : Calls P f args w fun e w' => ∃ v, e = .returned v ∧ Ln P md ops Q fuel (listed.setIfInBounds i true) (a.put oi.dst v) w') : Ln P md ops Q (fuel + 1) listed a w := by
  refine Ln.one i hi hr hg fun K hK => ?_
  unfold Oper.wp
  rw [hop, Oper.upon_enter]
  refine hc.mono ?_
  rintro e w' ⟨v, rfl, hl⟩
  exact hK _ _ hl
/-- An operation that makes memory, alone. -/
theorem Ln.made {fuel : Nat} {listed : Array Bool} {a : Act} {w w' : World} (i : Nat) {oi : Oper} (v : Value) (hi : ops[i]? = some oi)
    (hr : Region.ready md ops listed = [i]) (hg : Region.wanted oi (yielded ops a.tmps) = true) (hop : (execOp a.eval oi).run P w = .ok (.value v) w')
    (h : Ln P md ops Q fuel (listed.setIfInBounds i true) (a.put oi.dst v) w') : Ln P md ops Q (fuel + 1) listed a w := by
  refine Ln.one i hi hr hg fun K hK => ?_
  unfold Oper.wp
  rw [hop, Oper.upon_value]
  exact hK _ _ h
theorem Ln.done {listed : Array Bool} {a : Act} {w : World} {fuel : Nat} (hr : Region.ready md ops listed = []) (h : Q .normal a w) : Ln P md ops Q fuel listed a w := ⟨wpAny_done hr h fuel⟩
theorem exec_slice {o : Oper} {a : Act} {w : World} {ty : TypeId} {x : Operand} {lo hi mx : Option Operand} (ho : o.op = .slice ty x lo hi mx) (hu : P.underlying ty = some (.slice (P.elem ty))) (X v : Value) (lo' hi' mx' : Option Value)
    (hx : a.eval x = X) (hlo : lo.map a.eval = lo') (hhi : hi.map a.eval = hi') (hmx : mx.map a.eval = mx') (h : (Instr.slice ty X lo' hi' mx').run P w = .ok v w) : (execOp a.eval o).run P w = .ok (.value v) w := by
  unfold execOp
  simp only [ho, hx, hlo, hhi, hmx, Sem.run_bind, run_sliceAt_slice _ ty X lo' hi' mx' hu, h, Result.andThen_ok, Sem.run_pure]
end
end Go.Proofs.YteidkdpfjponfaaDoor
