/- More of XLine: a choice between two operations; an append where the region stands at it. -/
import Derived.Test.YteidkdpfjponfaaDoorLine
import Derived.Test.YteidkdpfjponfaaDoorCat
namespace Go.Proofs.YteidkdpfjponfaaDoor
open Go.RowKit
set_option linter.unusedVariables false
set_option linter.unusedSimpArgs false
section
variable {P : Program} {ops : Array Oper} {md : Region.Mode} {Q : Exit → Act → World → Prop}
/-- One operation of those that may come up. -/
structure LnOp (P : Program) (md : Region.Mode) (ops : Array Oper) (Q : Exit → Act → World → Prop) (fuel : Nat) (listed : Array Bool) (i : Nat) (a : Act) (w : World) : Prop where
  out : wpOp P ops Q i (wpAny P md ops Q fuel (listed.setIfInBounds i true)) a w
theorem LnOp.mk' {fuel : Nat} {listed : Array Bool} {a : Act} {w : World} (i : Nat) {oi : Oper} (hi : ops[i]? = some oi) (hg : Region.wanted oi (yielded ops a.tmps) = true)
    (h : ∀ K : Act → World → Prop, (∀ a w, Ln P md ops Q fuel (listed.setIfInBounds i true) a w → K a w) → Oper.wp P oi a w K Q) : LnOp P md ops Q fuel listed i a w :=
  ⟨wpOp_step hi fun K hK => by rw [if_pos hg]; exact h K fun a w hl => hK a w hl.out⟩
theorem Ln.two {fuel : Nat} {listed : Array Bool} {a : Act} {w : World} (i j : Nat) (hr : Region.ready md ops listed = [i, j])
    (h1 : LnOp P md ops Q fuel listed i a w) (h2 : LnOp P md ops Q fuel listed j a w) : Ln P md ops Q (fuel + 1) listed a w :=
  ⟨wpAny_all hr (by simp) fun k hk => by
    rcases List.mem_cons.1 hk with rfl | hk
    · exact h1.out
    · rcases List.mem_cons.1 hk with rfl | hk
      · exact h2.out
      · cases hk⟩
theorem LnOp.call {fuel : Nat} {listed : Array Bool} {a : Act} {w : World} (i : Nat) {oi : Oper} {f : FuncId} {args : Array Value} (hi : ops[i]? = some oi)
    (hg : Region.wanted oi (yielded ops a.tmps) = true) (hop : (execOp a.eval oi).run P w = .ok (.enter f args) w)
    (hc : Calls P f args w fun e w' => ∃ v, e = .returned v ∧ Ln P md ops Q fuel (listed.setIfInBounds i true) (a.put oi.dst v) w') : LnOp P md ops Q fuel listed i a w := by
  refine LnOp.mk' i hi hg fun K hK => ?_
  unfold Oper.wp
  rw [hop, Oper.upon_enter]
  refine hc.mono ?_
  rintro e w' ⟨v, rfl, hl⟩
  exact hK _ _ hl
theorem LnOp.made {fuel : Nat} {listed : Array Bool} {a : Act} {w w' : World} (i : Nat) {oi : Oper} (v : Value) (hi : ops[i]? = some oi)
    (hg : Region.wanted oi (yielded ops a.tmps) = true) (hop : (execOp a.eval oi).run P w = .ok (.value v) w')
    (h : Ln P md ops Q fuel (listed.setIfInBounds i true) (a.put oi.dst v) w') : LnOp P md ops Q fuel listed i a w := by
  refine LnOp.mk' i hi hg fun K hK => ?_
  unfold Oper.wp
  rw [hop, Oper.upon_value]
  exact hK _ _ h
/-- An append, alone. -/
theorem Ln.app {fuel : Nat} {listed : Array Bool} {a : Act} {w : World} (i : Nat) {oi : Oper} (hi : ops[i]? = some oi)
    (hr : Region.ready md ops listed = [i]) (hg : Region.wanted oi (yielded ops a.tmps) = true) (s x : Operand) (t e : TypeId) (k : IntKind) (bytes : Nat)
    (ho : oi.op = .call { callee := .builtin .append, args := #[s, x], argTypes := #[t, t] })
    (ht : P.underlying t = some (.slice e)) (hinfo : (P.info? e).map (fun i => (i.zero, i.size, i.bytes)) = some (some (.int k 0), 1, bytes))
    {b B : Nat} {v : Value} {l m : List Int} {A : Option Addr} {n c : Nat} (hown : Own w b e k v l) (hrd : Rd w B k A m) (hs : a.eval s = v) (hx : a.eval x = .slice A n c) (hn : m.length = n) (lm : List Int) (hlm : l ++ m = lm) (N : Nat) (hN : lm.length = N)
    (hlim : N * bytes ≤ 140737488355328) (hmax : N ≤ maxLen) (hb : b ≤ w.heap.size)
    (h : ∀ A' c' w', Own w' b e k (.slice A' N c') lm → w.grownBy w' v.ownBlock → ((Value.slice A' N c').ownBlock = v.ownBlock ∨ (Value.slice A' N c').ownBlock = some w.heap.size) →
      Ln P md ops Q fuel (listed.setIfInBounds i true) (a.put oi.dst (.slice A' N c')) w') : Ln P md ops Q (fuel + 1) listed a w := by
  subst hN hlm
  have e1 : (l ++ m).length = l.length + m.length := List.length_append
  rw [e1] at hlim hmax h
  refine Ln.one i hi hr hg fun K hK => ?_
  obtain ⟨A', c', w', hrun, h2, h3, h4⟩ := run_append_nums (P := P) w t oi.type e k bytes ht hinfo hown hrd hn hlim hmax hb (c := c)
  unfold Oper.wp execOp
  simp only [ho, resolve, invoke, builtin, Sem.run_bind, Sem.run_pure, Result.andThen_ok, List.map_toArray, List.map_cons, List.map_nil, hs, hx, hrun]
  exact hK _ _ (h A' c' w' h2 h3 h4)
end
theorem Frs.grownBy {w w' : World} {b c : Nat} {A : Option Addr} {l : List Int} {row : Option Nat} (h : Frs w b A c l) (hg : w.grownBy w' row) (hne : 0 < l.length → ∀ g, A = some ⟨g, 0, none⟩ → row ≠ some g) : Frs w' b A c l := by
  rcases Nat.eq_zero_or_pos l.length with h0 | h0
  · exact ⟨h.cap, h.max, h.nil, fun hn => by omega⟩
  · exact h.keep hg.size fun g _ h2 e => hg.block g h2 (fun e2 => hne h0 g e e2.symm)
end Go.Proofs.YteidkdpfjponfaaDoor
