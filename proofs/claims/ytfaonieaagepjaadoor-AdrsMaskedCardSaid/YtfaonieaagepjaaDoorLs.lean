/- A region whose order is open, gone through by a plan that is checked once: what yields the same in every world that meets S is taken at once, the rest stands alone when its turn comes. -/
import Derived.Test.YtfaonieaagepjaaDoorZA
namespace Go.Proofs.YtfaonieaagepjaaDoor
open Go.RowKit
set_option linter.unusedVariables false
set_option linter.unusedSimpArgs false
section
variable {P : Program} {ops : Array Oper} {md : Region.Mode} {Q : Exit → Act → World → Prop} {S : World → Prop}
/-- The i-th of a list, as the unifier reads it at once. -/
def nth {α : Type} : List α → Nat → Option α
  | [], _ => none
  | x :: _, 0 => some x
  | _ :: l, n + 1 => nth l n
theorem nth_eq {α : Type} : ∀ (l : List α) (i : Nat), nth l i = l[i]?
  | [], i => by simp [nth]
  | x :: l, 0 => rfl
  | x :: l, n + 1 => by simp only [nth, nth_eq l n, List.getElem?_cons_succ]
theorem nth_ops {ops : Array Oper} {i : Nat} {oi : Oper} (h : nth ops.toList i = some oi) : ops[i]? = some oi := by rw [nth_eq, Array.getElem?_toList] at h; exact h
def Region.plan (md : Region.Mode) (ops : Array Oper) : Array Bool → List (Nat × Bool) → Bool
  | listed, [] => (Region.ready md ops listed).isEmpty
  | listed, (i, fl) :: rest => (if fl then Region.free md ops listed i && (Region.ready md ops listed).contains i else Region.ready md ops listed == [i]) && Region.plan md ops (listed.setIfInBounds i true) rest
/-- The rest of the region, by the rest of the plan, from a world that meets S. -/
structure Ls (P : Program) (md : Region.Mode) (ops : Array Oper) (S : World → Prop) (Q : Exit → Act → World → Prop) (sch : List (Nat × Bool)) (a : Act) (w : World) : Prop where
  out : ∀ listed, Region.plan md ops listed sch = true → Region.noSelect ops = true → S w → wpAnyS P md ops S Q sch.length listed a w
theorem Ls.enter {id : Nat} {a : Act} {w : World} (S : World → Prop) (sch : List (Nat × Bool)) (hn : ops.size = sch.length) (hp : Region.plan .any ops (Array.replicate sch.length false) sch = true) (hs : Region.noSelect ops = true)
    (hm : P.follows .mixedOrders = true) (hS : S w.drew) (h : Ls P .any ops S Q sch a w.drew) : (Code.region id ops true).wp P Q a w := by
  refine wp_region_any hm (wpAny_of_S (S := S) _ _ _ _ ?_)
  rw [hn]
  exact h.out _ hp hs hS
theorem Ls.val {sch : List (Nat × Bool)} {a : Act} {w : World} {i : Nat} {oi : Oper} (v : Value) (hi : nth ops.toList i = some oi)
    (hQ : ∀ c a w, Q (.panic c) (a.put oi.dst v) w → Q (.panic c) a w) (hg : Region.wanted oi (yielded ops a.tmps) = true) (hv : ∀ w, S w → (execOp a.eval oi).run P w = .ok (.value v) w)
    (h : Ls P md ops S Q sch (a.put oi.dst v) w) : Ls P md ops S Q ((i, true) :: sch) a w := by
  refine ⟨fun listed hp hs hS => ?_⟩
  simp only [Region.plan, if_true, Bool.and_eq_true] at hp
  exact (Lx.val (md := md) i v (nth_ops hi) hs hp.1.1 hp.1.2 hQ hg hv ⟨fun hS' => h.out _ hp.2 hs hS'⟩).out hS
theorem Ls.no {sch : List (Nat × Bool)} {a : Act} {w : World} {i : Nat} {oi : Oper} (hi : nth ops.toList i = some oi)
    (hQ : ∀ c a w, Q (.panic c) (a.put oi.dst undef) w → Q (.panic c) a w) (hg : Region.wanted oi (yielded ops a.tmps) = false)
    (h : Ls P md ops S Q sch (a.put oi.dst undef) w) : Ls P md ops S Q ((i, true) :: sch) a w := by
  refine ⟨fun listed hp hs hS => ?_⟩
  simp only [Region.plan, if_true, Bool.and_eq_true] at hp
  exact (Lx.no (md := md) i (nth_ops hi) hs hp.1.1 hp.1.2 hQ hg ⟨fun hS' => h.out _ hp.2 hs hS'⟩).out hS
theorem Ls.one {sch : List (Nat × Bool)} {a : Act} {w : World} {i : Nat} {oi : Oper} (hi : nth ops.toList i = some oi) (hg : Region.wanted oi (yielded ops a.tmps) = true)
    (h : S w → ∀ K : Act → World → Prop, (∀ a w, S w → Ls P md ops S Q sch a w → K a w) → Oper.wp P oi a w K Q) : Ls P md ops S Q ((i, false) :: sch) a w := by
  refine ⟨fun listed hp hs hS => ?_⟩
  simp only [Region.plan, Bool.false_eq_true, if_false, Bool.and_eq_true, beq_iff_eq] at hp
  exact (Lx.one (md := md) (Q := Q) i (nth_ops hi) hp.1 hg fun hS K hK => h hS K fun a w hs' hl => hK a w hs' ⟨fun hS' => hl.out _ hp.2 hs hS'⟩).out hS
theorem Ls.call {sch : List (Nat × Bool)} {a : Act} {w : World} {i : Nat} {oi : Oper} {f : FuncId} {args : Array Value} (hi : nth ops.toList i = some oi)
    (hg : Region.wanted oi (yielded ops a.tmps) = true) (hop : (execOp a.eval oi).run P w = .ok (.enter f args) w)
    (hc : S w → Calls P f args w fun e w' => ∃ v, e = .returned v ∧ S w' ∧ Ls P md ops S Q sch (a.put oi.dst v) w') : Ls P md ops S Q ((i, false) :: sch) a w := by
  refine Ls.one hi hg fun hS K hK => ?_
  unfold Oper.wp
  rw [hop, Oper.upon_enter]
  refine (hc hS).mono ?_
  rintro e w' ⟨v, rfl, hs, hl⟩
  exact hK _ _ hs hl
theorem Ls.made {sch : List (Nat × Bool)} {a : Act} {w w' : World} {i : Nat} {oi : Oper} (v : Value) (hi : nth ops.toList i = some oi)
    (hg : Region.wanted oi (yielded ops a.tmps) = true) (hop : (execOp a.eval oi).run P w = .ok (.value v) w') (hS' : S w → S w')
    (h : Ls P md ops S Q sch (a.put oi.dst v) w') : Ls P md ops S Q ((i, false) :: sch) a w := by
  refine Ls.one hi hg fun hS K hK => ?_
  unfold Oper.wp
  rw [hop, Oper.upon_value]
  exact hK _ _ (hS' hS) h
theorem Ls.app {sch : List (Nat × Bool)} {a : Act} {w : World} {i : Nat} {oi : Oper} (hi : nth ops.toList i = some oi)
    (hgd : oi.guard = none) (s x : Operand) (t e : TypeId) (k : IntKind) (bytes : Nat)
    (ho : oi.op = .call { callee := .builtin .append, args := #[s, x], argTypes := #[t, t] })
    (ht : P.underlying t = some (.slice e)) (hinfo : (P.info? e).map (fun i => (i.zero, i.size, i.bytes)) = some (some (.int k 0), 1, bytes))
    {b B : Nat} {v : Value} {l m : List Int} {A : Option Addr} {n c : Nat} (hown : Own w b e k v l) (hrd : Rd w B k A m) (hs : a.eval s = v) (hx : a.eval x = .slice A n c) (hn : m.length = n) (lm : List Int) (hlm : l ++ m = lm) (N : Nat) (hN : lm.length = N)
    (hlim : N * bytes ≤ 140737488355328) (hmax : N ≤ maxLen) (hb : b ≤ w.heap.size)
    (h : S w → ∀ A' c' w', Own w' b e k (.slice A' N c') lm → w.grownBy w' v.ownBlock → ((Value.slice A' N c').ownBlock = v.ownBlock ∨ (Value.slice A' N c').ownBlock = some w.heap.size) →
      S w' ∧ Ls P md ops S Q sch (a.put oi.dst (.slice A' N c')) w') : Ls P md ops S Q ((i, false) :: sch) a w := by
  refine Ls.one hi (by simp [Region.wanted, hgd]) fun hS K hK => ?_
  subst hN hlm
  have e1 : (l ++ m).length = l.length + m.length := List.length_append
  rw [e1] at hlim hmax h
  have := step_append_nums (P := P) (ops := ops) (Q := Q) (E := True) (K := K) hgd s x t e k bytes ho ht hinfo hown hrd hs hx hn hlim hmax hb (fun A' c' w' h1 h2 h3 => (h hS A' c' w' h1 h2 h3).elim fun hs hl => hK _ _ hs hl)
  rwa [if_pos (by simp [Region.wanted, hgd])] at this
theorem Ls.done {a : Act} {w : World} (h : S w → Q .normal a w) : Ls P md ops S Q [] a w :=
  ⟨fun listed hp _ hS => by
    simp only [Region.plan, List.isEmpty_iff] at hp
    exact ⟨hp, h hS⟩⟩
end
end Go.Proofs.YtfaonieaagepjaaDoor
