/- A region whose order is open, of operations that call nothing, in whatever fence and round: by what is shown of it without a fence. Conditions: none. -/
import Derived.Test.YtfaonieaagepjaaDoorZA
import Derived.OrdersIn
namespace Go.Proofs.YtfaonieaagepjaaDoor
open Go.RowKit
set_option linter.unusedVariables false
set_option linter.unusedSimpArgs false
section
variable {P : Program} {ops : Array Oper} {md : Region.Mode} {F : Fence} {n : Nat} {Q : Exit → Act → World → Prop}
/-- Operations that call nothing and are the same in a round. -/
def calmO (o : Oper) : Bool :=
  match o.op with
  | .move _ | .assign _ | .load _ _ | .store _ _ _ | .binOp _ _ _ _ _ | .unOp _ _ _ | .convert _ _ _ | .fieldAddr _ _ _ | .indexAddr _ _ _ | .slice _ _ _ _ _ => true
  | _ => false
theorem calm_run {o : Oper} (hc : calmO o = true) (ρ : Operand → Value) (w : World) : (∃ v w', (execOp ρ o).run P w = .ok (.value v) w') ∨ (∃ w', (execOp ρ o).run P w = .ok .skip w') ∨ ∃ x w', (execOp ρ o).run P w = .halt x w' := by
  have hv : ∀ (s : Sem Value), (∃ v w', (do pure (.value (← s)) : Sem Next).run P w = .ok (.value v) w') ∨ (∃ w', (do pure (.value (← s)) : Sem Next).run P w = .ok .skip w') ∨ ∃ x w', (do pure (.value (← s)) : Sem Next).run P w = .halt x w' := fun s => by
    rw [Sem.run_bind]
    cases s.run P w with
    | ok v w' => exact .inl ⟨v, w', by simp [Result.andThen]⟩
    | halt x w' => exact .inr (.inr ⟨x, w', by simp [Result.andThen]⟩)
  have hu : ∀ (s : Sem Unit), (∃ v w', (do s; pure .skip : Sem Next).run P w = .ok (.value v) w') ∨ (∃ w', (do s; pure .skip : Sem Next).run P w = .ok .skip w') ∨ ∃ x w', (do s; pure .skip : Sem Next).run P w = .halt x w' := fun s => by
    rw [Sem.run_bind]
    cases s.run P w with
    | ok v w' => exact .inr (.inl ⟨w', by simp [Result.andThen]⟩)
    | halt x w' => exact .inr (.inr ⟨x, w', by simp [Result.andThen]⟩)
  unfold calmO at hc
  unfold execOp
  cases ho : o.op <;> simp only [ho] at hc ⊢ <;> first | exact absurd hc (by decide) | exact hv _ | exact hu _ | exact .inl ⟨_, _, Sem.run_pure _ _ _⟩
theorem calm_about {o : Oper} (hc : calmO o = true) (ρ : Operand → Value) (w : World) (f : FuncId) (h : o.about P w ρ = some f) : F.fn f := by
  unfold calmO at hc
  unfold Oper.about at h
  cases ho : o.op <;> simp only [ho] at hc h <;> first | exact absurd hc (by decide) | cases h
theorem calm_wpIn {o : Oper} (hc : calmO o = true) {a : Act} {w : World} {K : Act → World → Prop} (h : o.wp P a w K Q) : o.wpIn F n P a w K Q := by
  refine ⟨fun f hf => calm_about hc _ _ f hf, ?_⟩
  rw [Oper.semAt_eq _ _ _ (fun c hd => by unfold calmO at hc; rw [hd] at hc; simp at hc)]
  unfold Oper.wp at h
  rcases calm_run (P := P) hc a.eval w with ⟨v, w', e⟩ | ⟨w', e⟩ | ⟨x, w', e⟩
  · rw [e] at h ⊢; exact h
  · rw [e] at h ⊢; exact h
  · rw [e] at h ⊢
    cases x <;> first | exact h | exact h.elim
theorem wpOp_in (hc : ops.all calmO = true) (hout : ¬ LetsOut Q) {i : Nat} {K : Act → World → Prop} {a : Act} {w : World} (h : wpOp P ops Q i K a w) : wpOpIn F n P ops Q i K a w := by
  unfold wpOp at h
  unfold wpOpIn
  cases ho : ops[i]? with
  | none => rw [ho] at h; exact h
  | some o =>
    rw [ho] at h
    simp only at h ⊢
    have hco : calmO o = true := by
      rw [Array.all_eq_true_iff_forall_mem] at hc
      exact hc o (Array.mem_of_getElem? ho)
    split
    · rename_i hw
      rw [if_pos hw] at h
      rcases h with h | h
      · exact calm_wpIn hco h
      · exact absurd h.2 hout
    · rename_i hw
      rw [if_neg hw] at h
      exact ⟨fun f hf => calm_about hco _ _ f hf, h⟩
theorem wpAny_in (hc : ops.all calmO = true) (hout : ¬ LetsOut Q) : ∀ (fuel : Nat) (listed : Array Bool) (a : Act) (w : World), wpAny P md ops Q fuel listed a w → wpAnyIn F n P md ops Q fuel listed a w
  | 0, _, _, _, h => h
  | fuel + 1, _, _, _, h => ⟨h.1, fun i hi => wpOpIn_mono (fun a' w' h' => wpAny_in hc hout fuel _ a' w' h') (wpOp_in hc hout (h.2 i hi))⟩
/-- The region, its head of m operations keeping S, a chain behind them. -/
theorem wpIn_region_hold_tail {id : Nat} {a : Act} {w : World} {l : List Oper} (m : Nat) (S : World → Prop) (hm : P.follows .mixedOrders = true) (hc : l.toArray.all calmO = true) (hout : ¬ LetsOut Q) (hB : Region.lexTailB .any l.toArray m = true) (hS : S w.drew)
    (h : wpHold P l.toArray S (fun a' => ∀ w', S w' → wpList P l.toArray Q (l.drop m) a' w') (l.take m) a) : (Code.region id l.toArray true).wpIn F n P Q a w := by
  simp only [Region.lexTailB, Bool.and_eq_true, decide_eq_true_eq] at hB
  obtain ⟨⟨⟨⟨hsel, hn⟩, hs⟩, hch⟩, hlex⟩ := hB
  have hn' : m < l.length := by simpa using hn
  have htl : (l.take m).length = m := by simp; omega
  have hdl : (l.drop m).length = l.toArray.size - m := by simp
  have inv0 : HeadInv .any l.toArray m (Array.replicate l.toArray.size false) :=
    ⟨by simp, fun j oj _ hl => (by rw [getD_replicate_false] at hl; cases hl), fun t _ ht => getD_in (by simpa using ht) (getD_replicate_false _ _)⟩
  have H := wpAnyT_lex (md := .any) (g := l.toArray.size - m) hsel hs hch hn (l.take m) 0 _ a (fun j hj => by
    have hj' : j < m := by rw [htl] at hj; exact hj
    simp [hj']) (by simpa using htl) inv0 (by rw [htl]; exact hlex) h.out
  refine wpIn_region_any hm (wpAny_in hc hout _ _ _ _ ?_)
  have := wpAny_of_headT (S := S) (Q' := Q) (g := l.toArray.size - m) (fun listed a' w' hsw hL => by
    have := wpAny_of_seq (md := .any) (Q' := Q) (l.drop m) m listed a' w' (fun j => by simp [List.getElem?_drop]) (by rw [hdl]; exact hL.1) (hL.2 w' hsw)
    rwa [hdl] at this) _ _ _ _ hS H
  rw [htl, show m + (l.toArray.size - m) = l.toArray.size by omega] at this
  exact this
end
end Go.Proofs.YtfaonieaagepjaaDoor
