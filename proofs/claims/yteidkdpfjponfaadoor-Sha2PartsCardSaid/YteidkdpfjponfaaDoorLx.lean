/- A region whose order is open, in which a condition S on the world is kept by whatever is done: what yields the same in every world that meets S (a load, a move) is taken at once, what makes memory stands alone when its turn comes. -/
import Derived.Test.YteidkdpfjponfaaDoorLine
import Derived.Test.YteidkdpfjponfaaDoorHd
namespace Go.Proofs.YteidkdpfjponfaaDoor
open Go.RowKit
set_option linter.unusedVariables false
set_option linter.unusedSimpArgs false
section
variable {P : Program} {ops : Array Oper} {md : Region.Mode} {Q : Exit → Act → World → Prop} {S : World → Prop}
def YieldsS (P : Program) (ops : Array Oper) (S : World → Prop) (o : Oper) (v : Value) (a : Act) : Prop :=
  (Region.wanted o (yielded ops a.tmps) = true ∧ ∀ w, S w → (execOp a.eval o).run P w = .ok (.value v) w) ∨ (Region.wanted o (yielded ops a.tmps) = false ∧ v = undef)
theorem YieldsS.wpOp {i : Nat} {o : Oper} {v : Value} {a : Act} (hi : ops[i]? = some o) (hy : YieldsS P ops S o v a)
    {K : Act → World → Prop} {w : World} (hS : S w) (h : K (a.put o.dst v) w) : wpOp P ops Q i K a w := by
  unfold Go.wpOp
  simp only [hi]
  rcases hy with ⟨hw, hv⟩ | ⟨hw, rfl⟩
  · simp only [hw, if_true, Oper.wp, hv w hS, Oper.upon]; exact .inl h
  · simp only [hw, Bool.false_eq_true, if_false]; exact h
theorem YieldsS.of_same {o : Oper} {v : Value} {a a' : Act} (hy : YieldsS P ops S o v a) (he : execOp a'.eval o = execOp a.eval o)
    (hw : Region.wanted o (yielded ops a'.tmps) = Region.wanted o (yielded ops a.tmps)) : YieldsS P ops S o v a' := by
  unfold YieldsS at *
  rw [he, hw]
  exact hy
theorem wpOp_putS {j : Nat} {oi oj : Oper} {v : Value} (hj : ops[j]? = some oj) (hap : oi.apart ops oj = true)
    (hsi : ∀ cs b, oi.op ≠ .select cs b) (hsj : ∀ cs b, oj.op ≠ .select cs b)
    (hQ : ∀ c a w, Q (.panic c) (a.put oi.dst v) w → Q (.panic c) a w) {K : Act → World → Prop} {a : Act} {w : World}
    (hy : YieldsS P ops S oi v a) (h : wpOp P ops Q j K (a.put oi.dst v) w) :
    wpOp P ops Q j (fun a' w' => YieldsS P ops S oi v a' ∧ K (a'.put oi.dst v) w') a w := by
  obtain ⟨h1, h2, h3⟩ := Oper.apart_spec hap
  have keep : ∀ (a : Act), YieldsS P ops S oi v a → ∀ u, YieldsS P ops S oi v (a.put oj.dst u) := fun a hy u =>
    hy.of_same (execOp_put oi hsi a oj.dst u h3) (wanted_put oi a oj.dst u h3)
  have keepD : ∀ d, YieldsS P ops S oi v { a with defers := d :: a.defers } := fun d => hy.of_same rfl rfl
  unfold Go.wpOp at *
  simp only [hj] at *
  rw [wanted_put oj a oi.dst v h1] at h
  split
  · rename_i hw
    simp only [hw, if_true] at h
    rcases h with h | ⟨hasks, hlets⟩
    case inr => exact .inr ⟨by unfold Oper.asks at *; rw [execOp_put oj hsj a oi.dst v h1] at hasks; exact hasks, hlets⟩
    refine .inl ?_
    unfold Oper.wp at *
    rw [execOp_put oj hsj a oi.dst v h1] at h
    generalize (execOp a.eval oj).run P w = r at *
    cases r with
    | ok n w' =>
      cases n <;> simp only [Oper.upon] at h ⊢
      case value u => exact ⟨keep a hy u, by rw [← Act.put_comm a v u h2]; exact h⟩
      case skip => exact ⟨keep a hy _, by rw [← Act.put_comm a v undef h2]; exact h⟩
      case defer d =>
        refine ⟨keep _ (keepD d) _, ?_⟩
        rw [← Act.put_comm _ v undef h2, ← Act.put_defers]
        exact h
      case enter f args =>
        refine Calls.mono h fun e w'' he => ?_
        cases e with
        | returned u => exact ⟨keep a hy u, by rw [← Act.put_comm a v u h2]; exact he⟩
        | panicked c => exact hQ _ _ _ he
        | outgrown => exact he
      case row row args => exact Rows.mono h fun u w'' he => ⟨keep a hy u, by rw [← Act.put_comm a v u h2]; exact he⟩
    | halt x w' =>
      cases x <;> simp only [Oper.upon] at h ⊢
      case panic u => exact hQ _ _ _ h
  · rename_i hw
    simp only [hw] at h
    exact ⟨keep a hy _, by rw [← Act.put_comm a v undef h2]; exact h⟩
/-- In whatever order: the condition is kept. -/
def wpAnyS (P : Program) (md : Region.Mode) (ops : Array Oper) (S : World → Prop) (Q : Exit → Act → World → Prop) : Nat → Array Bool → Act → World → Prop
  | 0, listed, a, w => Region.ready md ops listed = [] ∧ Q .normal a w
  | fuel + 1, listed, a, w =>
    (Region.ready md ops listed = [] → Q .normal a w) ∧
    ∀ i ∈ Region.ready md ops listed, wpOp P ops Q i (fun a' w' => S w' ∧ wpAnyS P md ops S Q fuel (listed.setIfInBounds i true) a' w') a w
theorem wpAny_of_S : ∀ (fuel : Nat) (listed : Array Bool) (a : Act) (w : World), wpAnyS P md ops S Q fuel listed a w → wpAny P md ops Q fuel listed a w
  | 0, _, _, _, h => h
  | fuel + 1, _, _, _, h => ⟨h.1, fun i hi => wpOp_mono (fun _ _ h' => wpAny_of_S fuel _ _ _ h'.2) (h.2 i hi)⟩
theorem wpAnyS_first {i : Nat} {oi : Oper} {v : Value} (hi : ops[i]? = some oi) (hsel : ∀ (j : Nat) (o : Oper) cs b, ops[j]? = some o → o.op ≠ .select cs b)
    (hQ : ∀ c a w, Q (.panic c) (a.put oi.dst v) w → Q (.panic c) a w) :
    ∀ (fuel : Nat) (listed : Array Bool) (a : Act) (w : World), S w →
      (∀ j oj, ops[j]? = some oj → j ≠ i → listed.getD j true = false → (∀ e ∈ oj.after, Region.binds md e = true → e.on ≠ i) → oi.apart ops oj = true) →
      i ∈ Region.ready md ops listed → YieldsS P ops S oi v a →
      wpAnyS P md ops S Q fuel (listed.setIfInBounds i true) (a.put oi.dst v) w → wpAnyS P md ops S Q (fuel + 1) listed a w := by
  intro fuel
  induction fuel with
  | zero =>
    intro listed a w hS _ hr hy H
    refine ⟨fun h => (by rw [h] at hr; cases hr), fun j hj => ?_⟩
    by_cases hji : j = i
    · subst hji; exact hy.wpOp hi hS ⟨hS, H⟩
    · have := ready_mono hj hji
      rw [H.1] at this
      cases this
  | succ fuel ih =>
    intro listed a w hS hfree hr hy H
    refine ⟨fun h => (by rw [h] at hr; cases hr), fun j hj => ?_⟩
    by_cases hji : j = i
    · subst hji; exact hy.wpOp hi hS ⟨hS, H⟩
    · have h1 := H.2 j (ready_mono hj hji)
      obtain ⟨hjun, oj, hoj, hall⟩ := mem_ready.1 hj
      have hnot : ∀ e ∈ oj.after, Region.binds md e = true → e.on ≠ i := fun e he hb heq => by
        have h1 := hall e he hb
        have h0 := (mem_ready.1 hr).1
        rw [heq] at h1
        rcases Nat.lt_or_ge i listed.size with h' | h'
        · simp [h'] at h0 h1; rw [h0] at h1; cases h1
        · simp [Array.getElem?_eq_none h'] at h1
      have h2 := wpOp_putS hoj (hfree j oj hoj hji hjun hnot) (fun cs b => hsel i oi cs b hi) (fun cs b => hsel j oj cs b hoj) hQ hy h1
      have hfree' : ∀ k ok, ops[k]? = some ok → k ≠ i → (listed.setIfInBounds j true).getD k true = false →
          (∀ e ∈ ok.after, Region.binds md e = true → e.on ≠ i) → oi.apart ops ok = true := fun k ok hk hki hun hno => by
        refine hfree k ok hk hki ?_ hno
        by_cases hjk : j = k
        · subst hjk; exact hjun
        · rw [getD_set_ne true hjk] at hun; exact hun
      refine wpOp_mono (fun a' w' h3 => ⟨h3.2.1, ih (listed.setIfInBounds j true) a' w' h3.2.1 hfree' (ready_mono hr (Ne.symm hji)) h3.1 ?_⟩) h2
      rw [Array.setIfInBounds_comm _ _ hji]
      exact h3.2.2
/-- The rest of the region, from a world that meets S. -/
structure Lx (P : Program) (md : Region.Mode) (ops : Array Oper) (S : World → Prop) (Q : Exit → Act → World → Prop) (fuel : Nat) (listed : Array Bool) (a : Act) (w : World) : Prop where
  out : S w → wpAnyS P md ops S Q fuel listed a w
theorem Lx.enter {id : Nat} {a : Act} {w : World} (S : World → Prop) (n : Nat) (hn : ops.size = n) (hm : P.follows .mixedOrders = true) (hS : S w.drew)
    (h : Lx P .any ops S Q n (Array.replicate n false) a w.drew) : (Code.region id ops true).wp P Q a w := by
  subst hn
  exact wp_region_any hm (wpAny_of_S _ _ _ _ (h.out hS))
/-- It yields v in every world that meets S. -/
theorem Lx.val {fuel : Nat} {listed : Array Bool} {a : Act} {w : World} (i : Nat) {oi : Oper} (v : Value) (hi : ops[i]? = some oi)
    (hs : Region.noSelect ops = true) (hf : Region.free md ops listed i = true) (hr : (Region.ready md ops listed).contains i = true)
    (hQ : ∀ c a w, Q (.panic c) (a.put oi.dst v) w → Q (.panic c) a w) (hg : Region.wanted oi (yielded ops a.tmps) = true) (hv : ∀ w, S w → (execOp a.eval oi).run P w = .ok (.value v) w)
    (h : Lx P md ops S Q fuel (listed.setIfInBounds i true) (a.put oi.dst v) w) : Lx P md ops S Q (fuel + 1) listed a w :=
  ⟨fun hS => wpAnyS_first hi (Region.noSelect_spec hs) hQ fuel listed a w hS (Region.free_spec hi hf) (by simpa using hr) (.inl ⟨hg, hv⟩) (h.out hS)⟩
/-- It is not wanted. -/
theorem Lx.no {fuel : Nat} {listed : Array Bool} {a : Act} {w : World} (i : Nat) {oi : Oper} (hi : ops[i]? = some oi)
    (hs : Region.noSelect ops = true) (hf : Region.free md ops listed i = true) (hr : (Region.ready md ops listed).contains i = true)
    (hQ : ∀ c a w, Q (.panic c) (a.put oi.dst undef) w → Q (.panic c) a w) (hg : Region.wanted oi (yielded ops a.tmps) = false)
    (h : Lx P md ops S Q fuel (listed.setIfInBounds i true) (a.put oi.dst undef) w) : Lx P md ops S Q (fuel + 1) listed a w :=
  ⟨fun hS => wpAnyS_first hi (Region.noSelect_spec hs) hQ fuel listed a w hS (Region.free_spec hi hf) (by simpa using hr) (.inr ⟨hg, rfl⟩) (h.out hS)⟩
/-- It stands alone: whatever it does to the world, S is kept. -/
theorem Lx.one {fuel : Nat} {listed : Array Bool} {a : Act} {w : World} (i : Nat) {oi : Oper} (hi : ops[i]? = some oi)
    (hr : Region.ready md ops listed = [i]) (hg : Region.wanted oi (yielded ops a.tmps) = true)
    (h : S w → ∀ K : Act → World → Prop, (∀ a w, S w → Lx P md ops S Q fuel (listed.setIfInBounds i true) a w → K a w) → Oper.wp P oi a w K Q) : Lx P md ops S Q (fuel + 1) listed a w := by
  refine ⟨fun hS => ⟨fun h0 => (by rw [hr] at h0; cases h0), fun k hk => ?_⟩⟩
  rw [hr] at hk
  obtain rfl : k = i := by simpa using hk
  unfold Go.wpOp
  simp only [hi, hg, if_true]
  exact .inl (h hS _ fun a w hs hl => ⟨hs, hl.out hs⟩)
/-- A call, alone. -/
theorem Lx.call {fuel : Nat} {listed : Array Bool} {a : Act} {w : World} (i : Nat) {oi : Oper} {f : FuncId} {args : Array Value} (hi : ops[i]? = some oi)
    (hr : Region.ready md ops listed = [i]) (hg : Region.wanted oi (yielded ops a.tmps) = true) (hop : (execOp a.eval oi).run P w = .ok (.enter f args) w)
    (hc : S w → Calls P f args w fun e w' => ∃ v, e = .returned v ∧ S w' ∧ Lx P md ops S Q fuel (listed.setIfInBounds i true) (a.put oi.dst v) w') : Lx P md ops S Q (fuel + 1) listed a w := by
  refine Lx.one i hi hr hg fun hS K hK => ?_
  unfold Oper.wp
  rw [hop, Oper.upon_enter]
  refine (hc hS).mono ?_
  rintro e w' ⟨v, rfl, hs, hl⟩
  exact hK _ _ hs hl
/-- An operation that makes memory, alone. -/
theorem Lx.made {fuel : Nat} {listed : Array Bool} {a : Act} {w w' : World} (i : Nat) {oi : Oper} (v : Value) (hi : ops[i]? = some oi)
    (hr : Region.ready md ops listed = [i]) (hg : Region.wanted oi (yielded ops a.tmps) = true) (hop : (execOp a.eval oi).run P w = .ok (.value v) w') (hS' : S w → S w')
    (h : Lx P md ops S Q fuel (listed.setIfInBounds i true) (a.put oi.dst v) w') : Lx P md ops S Q (fuel + 1) listed a w := by
  refine Lx.one i hi hr hg fun hS K hK => ?_
  unfold Oper.wp
  rw [hop, Oper.upon_value]
  exact hK _ _ (hS' hS) h
/-- An append, alone. -/
theorem Lx.app {fuel : Nat} {listed : Array Bool} {a : Act} {w : World} (i : Nat) {oi : Oper} (hi : ops[i]? = some oi)
    (hr : Region.ready md ops listed = [i]) (hgd : oi.guard = none) (s x : Operand) (t e : TypeId) (k : IntKind) (bytes : Nat)
    (ho : oi.op = .call { callee := .builtin .append, args := #[s, x], argTypes := #[t, t] })
    (ht : P.underlying t = some (.slice e)) (hinfo : (P.info? e).map (fun i => (i.zero, i.size, i.bytes)) = some (some (.int k 0), 1, bytes))
    {b B : Nat} {v : Value} {l m : List Int} {A : Option Addr} {n c : Nat} (hown : Own w b e k v l) (hrd : Rd w B k A m) (hs : a.eval s = v) (hx : a.eval x = .slice A n c) (hn : m.length = n) (lm : List Int) (hlm : l ++ m = lm) (N : Nat) (hN : lm.length = N)
    (hlim : N * bytes ≤ 140737488355328) (hmax : N ≤ maxLen) (hb : b ≤ w.heap.size)
    (h : S w → ∀ A' c' w', Own w' b e k (.slice A' N c') lm → w.grownBy w' v.ownBlock → ((Value.slice A' N c').ownBlock = v.ownBlock ∨ (Value.slice A' N c').ownBlock = some w.heap.size) →
      S w' ∧ Lx P md ops S Q fuel (listed.setIfInBounds i true) (a.put oi.dst (.slice A' N c')) w') : Lx P md ops S Q (fuel + 1) listed a w := by
  refine Lx.one i hi hr (by simp [Region.wanted, hgd]) fun hS K hK => ?_
  subst hN hlm
  have e1 : (l ++ m).length = l.length + m.length := List.length_append
  rw [e1] at hlim hmax h
  have := step_append_nums (P := P) (ops := ops) (Q := Q) (E := True) (K := K) hgd s x t e k bytes ho ht hinfo hown hrd hs hx hn hlim hmax hb (fun A' c' w' h1 h2 h3 => (h hS A' c' w' h1 h2 h3).elim fun hs hl => hK _ _ hs hl)
  rwa [if_pos (by simp [Region.wanted, hgd])] at this
theorem Lx.done {listed : Array Bool} {a : Act} {w : World} {fuel : Nat} (hr : Region.ready md ops listed = []) (h : S w → Q .normal a w) : Lx P md ops S Q fuel listed a w :=
  ⟨fun hS => match fuel with
    | 0 => ⟨hr, h hS⟩
    | _ + 1 => ⟨fun _ => h hS, by rw [hr]; simp⟩⟩
/-- A load of one cell. -/
theorem Lx.cell {fuel : Nat} {listed : Array Bool} {a : Act} {w : World} {t : TypeId} {x : Operand} {d : TypeDesc} (i : Nat) {oi : Oper} (v : Value) (p : Addr) (hi : ops[i]? = some oi)
    (hs : Region.noSelect ops = true) (hf : Region.free md ops listed i = true) (hr : (Region.ready md ops listed).contains i = true)
    (hQ : ∀ c a w, Q (.panic c) (a.put oi.dst v) w → Q (.panic c) a w) (hg : Region.wanted oi (yielded ops a.tmps) = true)
    (ho : oi.op = .load t x) (hx : a.eval x = .pointer (some p)) (hu : P.underlying t = some d) (hd : (match d with | .struct _ | .array _ _ => true | _ => false) = false) (hc : ∀ w, S w → w.cell? p = some v)
    (h : Lx P md ops S Q fuel (listed.setIfInBounds i true) (a.put oi.dst v) w) : Lx P md ops S Q (fuel + 1) listed a w :=
  Lx.val i v hi hs hf hr hQ hg (fun w hw => exec_load_cell w ho hx hu hd (hc w hw)) h
end
end Go.Proofs.YteidkdpfjponfaaDoor
