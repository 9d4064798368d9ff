import Derived.Test.YteidkdpfjponfaaDoorBase
namespace Go.Proofs.YteidkdpfjponfaaDoor
open Go.RowKit
set_option linter.unusedVariables false
set_option linter.unusedSimpArgs false

/-! A region whose order is open, whose operations keep a condition S on the world: each yields the same value in every world that meets S, and leads to such a world (a call may make memory). It is walked once, in the text's order. The proofs follow the kit's own ones for operations that leave the world alone. -/
section
variable {P : Program} {ops : Array Oper} {md : Region.Mode} {S : World → Prop}

/-- What the operation does from world w: it yields v, and the world behind it meets S. -/
def GivesR (P : Program) (S : World → Prop) (v : Value) : Result Next → Prop
  | .ok (.value u) w' => u = v ∧ S w'
  | .ok .skip w' => v = undef ∧ S w'
  | .ok (.enter f args) w' => Calls P f args w' fun e w'' => e = .returned v ∧ S w''
  | _ => False
def Gives (P : Program) (S : World → Prop) (o : Oper) (a : Act) (v : Value) (w : World) : Prop := GivesR P S v ((execOp a.eval o).run P w)

def wpHold0 (P : Program) (ops : Array Oper) (S : World → Prop) (Q : Act → Prop) : List Oper → Act → Prop
  | [], a => Q a
  | o :: rest, a => if Region.wanted o (yielded ops a.tmps) then ∃ v, (∀ w, S w → Gives P S o a v w) ∧ wpHold0 P ops S Q rest (a.put o.dst v) else wpHold0 P ops S Q rest (a.put o.dst undef)
/-- The same behind a name that no tactic looks through. -/
structure wpHold (P : Program) (ops : Array Oper) (S : World → Prop) (Q : Act → Prop) (l : List Oper) (a : Act) : Prop where
  out : wpHold0 P ops S Q l a

theorem wpHold_nil {Q : Act → Prop} {a : Act} (h : Q a) : wpHold P ops S Q [] a := ⟨h⟩
theorem wpHold_step {Q : Act → Prop} {a : Act} {o : Oper} {rest : List Oper} (v : Value) (hg : o.guard = none) (hv : ∀ w, S w → Gives P S o a v w)
    (h : wpHold P ops S Q rest (a.put o.dst v)) : wpHold P ops S Q (o :: rest) a := by
  refine ⟨?_⟩
  unfold wpHold0
  rw [if_pos (by simp [Region.wanted, hg])]
  exact ⟨v, hv, h.out⟩
theorem wpHold_yes {Q : Act → Prop} {a : Act} {o : Oper} {rest : List Oper} (v : Value) (hg : Region.wanted o (yielded ops a.tmps) = true) (hv : ∀ w, S w → Gives P S o a v w)
    (h : wpHold P ops S Q rest (a.put o.dst v)) : wpHold P ops S Q (o :: rest) a := by
  refine ⟨?_⟩
  unfold wpHold0
  rw [if_pos hg]
  exact ⟨v, hv, h.out⟩
theorem wpHold_no {Q : Act → Prop} {a : Act} {o : Oper} {rest : List Oper} (hg : Region.wanted o (yielded ops a.tmps) = false)
    (h : wpHold P ops S Q rest (a.put o.dst undef)) : wpHold P ops S Q (o :: rest) a := by
  refine ⟨?_⟩
  unfold wpHold0
  rw [if_neg (by simp [hg])]
  exact h.out

def hdOp (P : Program) (ops : Array Oper) (S : World → Prop) (i : Nat) (K : Act → Prop) (a : Act) : Prop :=
  match ops[i]? with
  | none => K a
  | some o => if Region.wanted o (yielded ops a.tmps) then ∃ v, (∀ w, S w → Gives P S o a v w) ∧ K (a.put o.dst v) else K (a.put o.dst undef)

theorem hdOp_mono {i : Nat} {a : Act} {K K' : Act → Prop} (h : ∀ a, K a → K' a) (hh : hdOp P ops S i K a) : hdOp P ops S i K' a := by
  unfold hdOp at *
  split
  · exact h _ (by simpa [*] using hh)
  · rename_i o ho
    simp only [ho] at hh
    split
    · rename_i hw; simp only [hw, if_true] at hh; obtain ⟨v, h1, h2⟩ := hh; exact ⟨v, h1, h _ h2⟩
    · rename_i hw; simp only [hw] at hh; exact h _ hh

theorem wp_of_gives {o : Oper} {a : Act} {v : Value} {w : World} {K : Act → World → Prop} {Q' : Exit → Act → World → Prop} (hg : Gives P S o a v w) (h : ∀ w', S w' → K (a.put o.dst v) w') : o.wp P a w K Q' := by
  unfold Gives at hg
  unfold Oper.wp
  generalize (execOp a.eval o).run P w = r at *
  cases r with
  | ok n w' =>
    cases n <;> simp only [GivesR] at hg <;> simp only [Oper.upon]
    case value u => obtain ⟨rfl, hs⟩ := hg; exact h _ hs
    case skip => obtain ⟨rfl, hs⟩ := hg; exact h _ hs
    case enter f args => exact hg.mono fun e w'' ⟨he, hs⟩ => by subst he; exact h _ hs
  | halt x w' => simp only [GivesR] at hg

theorem wpOp_of_hdOp {i : Nat} {a : Act} {w : World} {K : Act → Prop} {K' : Act → World → Prop} {Q' : Exit → Act → World → Prop} (hS : S w) (h : ∀ a w, S w → K a → K' a w) (hh : hdOp P ops S i K a) : wpOp P ops Q' i K' a w := by
  unfold hdOp at hh
  unfold wpOp
  split
  · rename_i ho; simp only [ho] at hh; exact h _ _ hS hh
  · rename_i o ho
    simp only [ho] at hh
    split
    · rename_i hw; simp only [hw, if_true] at hh; obtain ⟨v, h1, h2⟩ := hh; exact .inl (wp_of_gives (h1 w hS) fun w' hs => h _ _ hs h2)
    · rename_i hw; simp only [hw] at hh; exact h _ _ hS hh

/-- In state a the operation yields v. -/
def HoldsAt (P : Program) (ops : Array Oper) (S : World → Prop) (o : Oper) (v : Value) (a : Act) : Prop :=
  (Region.wanted o (yielded ops a.tmps) = true ∧ ∀ w, S w → Gives P S o a v w) ∨ (Region.wanted o (yielded ops a.tmps) = false ∧ v = undef)

theorem HoldsAt.hdOp {i : Nat} {o : Oper} {v : Value} {a : Act} (hi : ops[i]? = some o) (hy : HoldsAt P ops S o v a) {K : Act → Prop} (h : K (a.put o.dst v)) : hdOp P ops S i K a := by
  unfold Proofs.YteidkdpfjponfaaDoor.hdOp
  simp only [hi]
  rcases hy with ⟨hw, hv⟩ | ⟨hw, rfl⟩
  · simp only [hw, if_true]; exact ⟨v, hv, h⟩
  · simp only [hw, Bool.false_eq_true, if_false]; exact h
theorem HoldsAt.of_same {o : Oper} {v : Value} {a a' : Act} (hy : HoldsAt P ops S o v a) (he : execOp a'.eval o = execOp a.eval o)
    (hw : Region.wanted o (yielded ops a'.tmps) = Region.wanted o (yielded ops a.tmps)) : HoldsAt P ops S o v a' := by
  unfold HoldsAt Gives at *
  rw [he, hw]
  exact hy
theorem holdsAt_of_hdOp {i : Nat} {o : Oper} {a : Act} {K : Act → Prop} (hi : ops[i]? = some o) (h : hdOp P ops S i K a) : ∃ v, HoldsAt P ops S o v a ∧ K (a.put o.dst v) := by
  unfold hdOp at h
  simp only [hi] at h
  by_cases hw : Region.wanted o (yielded ops a.tmps) = true
  · simp only [hw, if_true] at h
    obtain ⟨v, h1, h2⟩ := h
    exact ⟨v, .inl ⟨hw, h1⟩, h2⟩
  · simp only [hw] at h
    exact ⟨undef, .inr ⟨by simpa using hw, rfl⟩, h⟩

theorem hdOp_put {j : Nat} {oi oj : Oper} {v : Value} (hj : ops[j]? = some oj) (hap : oi.apart ops oj = true)
    (hsi : ∀ cs b, oi.op ≠ .select cs b) (hsj : ∀ cs b, oj.op ≠ .select cs b) {K : Act → Prop} {a : Act}
    (hy : HoldsAt P ops S oi v a) (h : hdOp P ops S j K (a.put oi.dst v)) :
    hdOp P ops S j (fun a' => HoldsAt P ops S oi v a' ∧ K (a'.put oi.dst v)) a := by
  obtain ⟨h1, h2, h3⟩ := Oper.apart_spec hap
  have keep : ∀ (a : Act), HoldsAt P ops S oi v a → ∀ u, HoldsAt P ops S oi v (a.put oj.dst u) := fun a hy u =>
    hy.of_same (execOp_put oi hsi a oj.dst u h3) (wanted_put oi a oj.dst u h3)
  unfold hdOp at *
  simp only [hj] at *
  rw [wanted_put oj a oi.dst v h1] at h
  split
  · rename_i hw
    simp only [hw, if_true] at h
    obtain ⟨u, hu, hn⟩ := h
    refine ⟨u, fun w hS => ?_, keep a hy u, by rw [← Act.put_comm a v u h2]; exact hn⟩
    have := hu w hS
    unfold Gives at *
    rw [execOp_put oj hsj a oi.dst v h1] at this
    exact this
  · rename_i hw
    simp only [hw] at h
    exact ⟨keep a hy _, by rw [← Act.put_comm a v undef h2]; exact h⟩

def wpAnyD (P : Program) (md : Region.Mode) (ops : Array Oper) (S : World → Prop) (Q : Act → Prop) : Nat → Array Bool → Act → Prop
  | 0, listed, a => Region.ready md ops listed = [] ∧ Q a
  | fuel + 1, listed, a =>
    (Region.ready md ops listed = [] → Q a) ∧
    ∀ i ∈ Region.ready md ops listed, hdOp P ops S i (wpAnyD P md ops S Q fuel (listed.setIfInBounds i true)) a

theorem wpAny_of_hold {Q : Act → Prop} {Q' : Exit → Act → World → Prop} (hQ : ∀ a w, S w → Q a → Q' .normal a w) : ∀ (fuel : Nat) (listed : Array Bool) (a : Act) (w : World), S w →
    wpAnyD P md ops S Q fuel listed a → wpAny P md ops Q' fuel listed a w
  | 0, _, _, _, hS, h => ⟨h.1, hQ _ _ hS h.2⟩
  | fuel + 1, _, _, _, hS, h => ⟨fun h0 => hQ _ _ hS (h.1 h0), fun i hi => wpOp_of_hdOp hS (fun a' w' hs h' => wpAny_of_hold hQ fuel _ a' w' hs h') (h.2 i hi)⟩

theorem wpAnyD_first {Q : Act → Prop} {i : Nat} {oi : Oper} {v : Value} (hi : ops[i]? = some oi) (hsel : ∀ (j : Nat) (o : Oper) cs b, ops[j]? = some o → o.op ≠ .select cs b) :
    ∀ (fuel : Nat) (listed : Array Bool) (a : Act),
      (∀ j oj, ops[j]? = some oj → j ≠ i → listed.getD j true = false → (∀ e ∈ oj.after, Region.binds md e = true → e.on ≠ i) → oi.apart ops oj = true) →
      i ∈ Region.ready md ops listed → HoldsAt P ops S oi v a →
      wpAnyD P md ops S Q fuel (listed.setIfInBounds i true) (a.put oi.dst v) → wpAnyD P md ops S Q (fuel + 1) listed a := by
  intro fuel
  induction fuel with
  | zero =>
    intro listed a _ hr hy H
    refine ⟨fun h => (by rw [h] at hr; cases hr), fun j hj => ?_⟩
    by_cases hji : j = i
    · subst hji; exact hy.hdOp hi H
    · have := ready_mono hj hji
      rw [H.1] at this
      cases this
  | succ fuel ih =>
    intro listed a hfree hr hy H
    refine ⟨fun h => (by rw [h] at hr; cases hr), fun j hj => ?_⟩
    by_cases hji : j = i
    · subst hji; exact hy.hdOp hi H
    · have h1 := H.2 j (ready_mono hj hji)
      obtain ⟨hjun, oj, hoj, hall⟩ := mem_ready.1 hj
      have hnot : ∀ e ∈ oj.after, Region.binds md e = true → e.on ≠ i := fun e he hb heq => by
        have h1 := hall e he hb
        have h0 := (mem_ready.1 hr).1
        rw [heq] at h1
        rcases Nat.lt_or_ge i listed.size with h' | h'
        · simp [h'] at h0 h1; rw [h0] at h1; cases h1
        · simp [Array.getElem?_eq_none h'] at h1
      have h2 := hdOp_put hoj (hfree j oj hoj hji hjun hnot) (fun cs b => hsel i oi cs b hi) (fun cs b => hsel j oj cs b hoj) hy h1
      have hfree' : ∀ k ok, ops[k]? = some ok → k ≠ i → (listed.setIfInBounds j true).getD k true = false →
          (∀ e ∈ ok.after, Region.binds md e = true → e.on ≠ i) → oi.apart ops ok = true := fun k ok hk hki hun hno => by
        refine hfree k ok hk hki ?_ hno
        by_cases hjk : j = k
        · subst hjk; exact hjun
        · rw [getD_set_ne true hjk] at hun; exact hun
      refine hdOp_mono (fun a' h3 => ih (listed.setIfInBounds j true) a' hfree' (ready_mono hr (Ne.symm hji)) h3.1 ?_) h2
      rw [Array.setIfInBounds_comm _ _ hji]
      exact h3.2

theorem wpAnyD_lex {Q : Act → Prop} (hs : Region.noSelect ops = true) : ∀ (l : List Oper) (k : Nat) (listed : Array Bool) (a : Act), (∀ j, l[j]? = ops[k + j]?) →
    Region.lexFrom md ops l.length k listed = true → wpHold0 P ops S Q l a → wpAnyD P md ops S Q l.length listed a
  | [], _, _, _, _, hB, h => ⟨by simpa [Region.lexFrom] using hB, h⟩
  | o :: l, k, listed, a, hl, hB, h => by
    have h0 : ops[k]? = some o := by simpa using (hl 0).symm
    simp only [List.length_cons, Region.lexFrom, Bool.and_eq_true] at hB
    obtain ⟨⟨hr, hf⟩, hB'⟩ := hB
    have hst : hdOp P ops S k (wpHold0 P ops S Q l) a := by unfold hdOp; simp only [h0]; exact h
    obtain ⟨v, hy, hK⟩ := holdsAt_of_hdOp h0 hst
    exact wpAnyD_first h0 (Region.noSelect_spec hs) l.length listed a (Region.free_spec h0 hf) (by simpa using hr) hy
      (wpAnyD_lex hs l (k + 1) _ _ (fun j => by have := hl (j + 1); simpa [Nat.add_assoc, Nat.add_comm 1 j] using this) hB' hK)

/-- THE REGION, WHOLE. -/
theorem wp_region_hold {id : Nat} {Q : Exit → Act → World → Prop} {a : Act} {w : World} {l : List Oper} (S : World → Prop) (hm : P.follows .mixedOrders = true) (hB : Region.lexB .any l.toArray = true) (hS : S w.drew)
    (h : wpHold P l.toArray S (fun a' => ∀ w', S w' → Q .normal a' w') l a) : (Code.region id l.toArray true).wp P Q a w := by
  simp only [Region.lexB, Bool.and_eq_true] at hB
  refine wp_region_any hm (wpAny_of_hold (S := S) (Q := fun a' => ∀ w', S w' → Q .normal a' w') (fun _ w hs hq => hq w hs) _ _ _ _ hS ?_)
  have := wpAnyD_lex (md := .any) (ops := l.toArray) hB.1 l 0 (Array.replicate l.toArray.size false) a (by simp) (by simpa using hB.2) h.out
  simpa using this

/-! ### .. and a tail in a forced order behind it -/
def wpAnyT (P : Program) (md : Region.Mode) (ops : Array Oper) (S : World → Prop) (n : Nat) (L : Array Bool → Act → Prop) : Nat → Array Bool → Act → Prop
  | 0, listed, a => L listed a
  | f + 1, listed, a =>
    Region.ready md ops listed ≠ [] ∧ ∀ i ∈ Region.ready md ops listed, i < n ∧ hdOp P ops S i (wpAnyT P md ops S n L f (listed.setIfInBounds i true)) a

theorem wpAny_of_headT {n g : Nat} {L : Array Bool → Act → Prop} {Q' : Exit → Act → World → Prop} (hL : ∀ listed a w, S w → L listed a → wpAny P md ops Q' g listed a w) :
    ∀ (f : Nat) (listed : Array Bool) (a : Act) (w : World), S w → wpAnyT P md ops S n L f listed a → wpAny P md ops Q' (f + g) listed a w
  | 0, listed, a, w, hS, h => by rw [Nat.zero_add]; exact hL _ _ _ hS h
  | f + 1, listed, a, w, hS, h => by
    rw [show f + 1 + g = (f + g) + 1 by omega]
    exact ⟨fun h0 => absurd h0 h.1, fun i hi => wpOp_of_hdOp hS (fun a' w' hs h' => wpAny_of_headT hL f _ a' w' hs h') (h.2 i hi).2⟩

theorem wpAnyT_first {n i : Nat} {oi : Oper} {v : Value} {L : Array Bool → Act → Prop} (hi : ops[i]? = some oi) (hsel : ∀ (j : Nat) (o : Oper) cs b, ops[j]? = some o → o.op ≠ .select cs b)
    (hs : Region.sinkB md ops n = true) (hc : Region.chainB md ops n = true) (hn : n < ops.size) (hin : i < n)
    (hdone : ∀ listed a, L listed a → ∀ j ∈ Region.ready md ops listed, n ≤ j) :
    ∀ (f : Nat) (listed : Array Bool) (a : Act), HeadInv md ops n listed →
      (∀ j oj, ops[j]? = some oj → j ≠ i → listed.getD j true = false → (∀ e ∈ oj.after, Region.binds md e = true → e.on ≠ i) → oi.apart ops oj = true) →
      i ∈ Region.ready md ops listed → HoldsAt P ops S oi v a →
      wpAnyT P md ops S n L f (listed.setIfInBounds i true) (a.put oi.dst v) → wpAnyT P md ops S n L (f + 1) listed a := by
  intro f
  induction f with
  | zero =>
    intro listed a inv _ hr hy H
    refine ⟨fun h => (by rw [h] at hr; cases hr), fun j hj => ?_⟩
    have hun := (mem_ready.1 hr).1
    have hjn : j < n := by
      rcases Nat.lt_or_ge j n with h | h
      · exact h
      · exact absurd hj (tail_waits hs hc hn inv _ i rfl hin hun j h)
    refine ⟨hjn, ?_⟩
    by_cases hji : j = i
    · subst hji; exact hy.hdOp hi H
    · have := hdone _ _ H j (ready_mono hj hji)
      omega
  | succ f ih =>
    intro listed a inv hfree hr hy H
    have hun := (mem_ready.1 hr).1
    refine ⟨fun h => (by rw [h] at hr; cases hr), fun j hj => ?_⟩
    have hjn : j < n := by
      rcases Nat.lt_or_ge j n with h | h
      · exact h
      · exact absurd hj (tail_waits hs hc hn inv _ i rfl hin hun j h)
    refine ⟨hjn, ?_⟩
    by_cases hji : j = i
    · subst hji; exact hy.hdOp hi H
    · have h1 := (H.2 j (ready_mono hj hji)).2
      obtain ⟨hjun, oj, hoj, hall⟩ := mem_ready.1 hj
      have hnot : ∀ e ∈ oj.after, Region.binds md e = true → e.on ≠ i := fun e he hb heq => by
        have h1 := hall e he hb
        rw [heq, getD_both hun] at h1
        cases h1
      have h2 := hdOp_put hoj (hfree j oj hoj hji hjun hnot) (fun cs b => hsel i oi cs b hi) (fun cs b => hsel j oj cs b hoj) hy h1
      have hfree' : ∀ k ok, ops[k]? = some ok → k ≠ i → (listed.setIfInBounds j true).getD k true = false →
          (∀ e ∈ ok.after, Region.binds md e = true → e.on ≠ i) → oi.apart ops ok = true := fun k ok hk hki hun hno => by
        refine hfree k ok hk hki ?_ hno
        by_cases hjk : j = k
        · subst hjk; exact hjun
        · rw [getD_set_ne true hjk] at hun; exact hun
      refine hdOp_mono (fun a' h3 => ih (listed.setIfInBounds j true) a' (inv.set hj hjn) hfree' (ready_mono hr (Ne.symm hji)) h3.1 ?_) h2
      rw [Array.setIfInBounds_comm _ _ hji]
      exact h3.2

theorem wpAnyT_lex {n g : Nat} {Lq : Act → Prop} (hsel : Region.noSelect ops = true) (hs : Region.sinkB md ops n = true) (hc : Region.chainB md ops n = true) (hn : n < ops.size) :
    ∀ (l : List Oper) (k : Nat) (listed : Array Bool) (a : Act), (∀ j, j < l.length → l[j]? = ops[k + j]?) → k + l.length = n → HeadInv md ops n listed →
    Region.lexHead md ops g l.length k listed = true → wpHold0 P ops S Lq l a →
    wpAnyT P md ops S n (fun listed' a' => Region.seqB md ops g n listed' = true ∧ Lq a') l.length listed a
  | [], k, listed, a, _, hk, _, hB, h => by
    have : k = n := by simpa using hk
    subst this
    exact ⟨by simpa [Region.lexHead] using hB, h⟩
  | o :: l, k, listed, a, hl, hk, inv, hB, h => by
    have h0 : ops[k]? = some o := by simpa using (hl 0 (by simp)).symm
    simp only [List.length_cons, Region.lexHead, Bool.and_eq_true] at hB
    obtain ⟨⟨hr, hf⟩, hB'⟩ := hB
    have hkn : k < n := by simp only [List.length_cons] at hk; omega
    have hr' : k ∈ Region.ready md ops listed := by simpa using hr
    have hst : hdOp P ops S k (wpHold0 P ops S Lq l) a := by unfold hdOp; simp only [h0]; exact h
    obtain ⟨v, hy, hK⟩ := holdsAt_of_hdOp h0 hst
    exact wpAnyT_first h0 (Region.noSelect_spec hsel) hs hc hn hkn (fun listed' a' hL => seqB_ready hL.1) l.length listed a inv (Region.free_spec h0 hf) hr' hy
      (wpAnyT_lex hsel hs hc hn l (k + 1) _ _ (fun j hj => by have := hl (j + 1) (by simp; omega); simpa [Nat.add_assoc, Nat.add_comm 1 j] using this) (by simp only [List.length_cons] at hk; omega) (inv.set hr' hkn) hB' hK)

/-- THE REGION, ITS HEAD OF n OPERATIONS KEEPING S, A CHAIN BEHIND THEM. -/
theorem wp_region_hold_tail {id : Nat} {Q : Exit → Act → World → Prop} {a : Act} {w : World} {l : List Oper} (n : Nat) (S : World → Prop) (hm : P.follows .mixedOrders = true) (hB : Region.lexTailB .any l.toArray n = true) (hS : S w.drew)
    (h : wpHold P l.toArray S (fun a' => ∀ w', S w' → wpList P l.toArray Q (l.drop n) a' w') (l.take n) a) : (Code.region id l.toArray true).wp P Q a w := by
  simp only [Region.lexTailB, Bool.and_eq_true, decide_eq_true_eq] at hB
  obtain ⟨⟨⟨⟨hsel, hn⟩, hs⟩, hc⟩, hlex⟩ := hB
  have hn' : n < l.length := by simpa using hn
  have htl : (l.take n).length = n := by simp; omega
  have hdl : (l.drop n).length = l.toArray.size - n := by simp
  have inv0 : HeadInv .any l.toArray n (Array.replicate l.toArray.size false) :=
    ⟨by simp, fun j oj _ hl => (by rw [getD_replicate_false] at hl; cases hl), fun t _ ht => getD_in (by simpa using ht) (getD_replicate_false _ _)⟩
  have H := wpAnyT_lex (md := .any) (g := l.toArray.size - n) hsel hs hc hn (l.take n) 0 _ a (fun j hj => by
    have hj' : j < n := by rw [htl] at hj; exact hj
    simp [hj']) (by simpa using htl) inv0 (by rw [htl]; exact hlex) h.out
  refine wp_region_any hm ?_
  have := wpAny_of_headT (S := S) (Q' := Q) (g := l.toArray.size - n) (fun listed a' w' hsw hL => by
    have := wpAny_of_seq (md := .any) (Q' := Q) (l.drop n) n listed a' w' (fun j => by simp [List.getElem?_drop]) (by rw [hdl]; exact hL.1) (hL.2 w' hsw)
    rwa [hdl] at this) _ _ _ _ hS H
  rw [htl, show n + (l.toArray.size - n) = l.toArray.size by omega] at this
  exact this

/-- A call, by its contract. -/
theorem gives_call {o : Oper} {a : Act} {v : Value} {w : World} {f : FuncId} {args : Array Value} (hr : (execOp a.eval o).run P w = .ok (.enter f args) w)
    (hc : Calls P f args w fun e w' => e = .returned v ∧ S w') : Gives P S o a v w := by
  unfold Gives; rw [hr]; exact hc
theorem gives_value {o : Oper} {a : Act} {v : Value} {w : World} (hS : S w) (hr : (execOp a.eval o).run P w = .ok (.value v) w) : Gives P S o a v w := by
  unfold Gives; rw [hr]; exact ⟨rfl, hS⟩
theorem gives_load_arr {o : Oper} {a : Act} {w : World} {b T : Nat} {k : IntKind} {l : List Int} {d : TypeDesc} (hS : S w)
    (ty : TypeId) (x : Operand) (ho : o.op = .load ty x) (hx : a.eval x = .pointer (some ⟨b, 0, none⟩)) (h : Arr w b T k l)
    (hu : P.underlying ty = some d) (hd : (match d with | .struct _ | .array _ _ => true | _ => false) = true) (n : Nat) (hi : (P.info? ty).map (·.size) = some n) (hn : l.length = n) :
    Gives P S o a (.agg (U k l)) w := by
  refine gives_value hS ?_
  unfold execOp
  simp only [ho, hx, Instr.loadAt, Instr.sureAddr, Sem.run_bind, Sem.run_pure, Result.andThen_ok, run_loadVar_row w b T ty (U k l) (0, 0) d h hu hd (by rw [U_size, hn]; exact hi)]
end

end Go.Proofs.YteidkdpfjponfaaDoor
