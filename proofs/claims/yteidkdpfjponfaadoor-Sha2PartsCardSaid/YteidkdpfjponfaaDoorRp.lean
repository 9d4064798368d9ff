/- A slice that reads as a list of numbers, its block told by a predicate; one append inside a region that draws its order. Conditions: none of the program. -/
import Derived.Test.YteidkdpfjponfaaDoorRow
import Derived.Test.YteidkdpfjponfaaDoorPart
import Derived.RegionTactic
namespace Go.Proofs.YteidkdpfjponfaaDoor
open Go.RowKit
set_option linter.unusedVariables false

def Rp (w : World) (S : Nat → Prop) (k : IntKind) (A : Option Addr) (l : List Int) : Prop :=
  0 < l.length → ∃ ad, A = some ad ∧ S ad.block ∧ ∀ i, i < l.length → w.cell? (ad.add i) = some (.int k (gt l i))
section
variable {w w' : World} {B B' : Nat} {k : IntKind} {A : Option Addr} {l : List Int} {S S' : Nat → Prop}
theorem Rp.nil : Rp w S k A [] := fun h => absurd h (by simp)
theorem Rp.keep (h : Rp w S k A l) (hk : ∀ p : Addr, S p.block → w'.cell? p = w.cell? p) : Rp w' S k A l := fun hn => by
  obtain ⟨ad, e, hb, hc⟩ := h hn
  exact ⟨ad, e, hb, fun i hi => (hk _ (by rw [block_plus]; exact hb)).trans (hc i hi)⟩
theorem Rp.more (h : Rp w S k A l) (hS : ∀ g, S g → S' g) : Rp w S' k A l := fun hn => by
  obtain ⟨ad, e, hb, hc⟩ := h hn
  exact ⟨ad, e, hS _ hb, hc⟩
theorem Rp.kept (h : Rp w S k A l) (hk : Kept B S' w w') (hs : ∀ g, S g → g < B ∧ ¬ S' g) : Rp w' S k A l :=
  h.keep fun p hp => World.cell?_of_block (hk.block p.block (hs _ hp).1 (hs _ hp).2)
theorem Rp.grown {row : Option Nat} (h : Rp w S k A l) (hg : w.grownBy w' row) (hs : ∀ g, S g → g < w.heap.size ∧ row ≠ some g) : Rp w' S k A l :=
  h.keep fun p hp => World.cell?_of_block (hg.block p.block (hs _ hp).1 (fun e => (hs _ hp).2 e.symm))
theorem Rp.rd (h : Rp w S k A l) (hs : ∀ g, S g → g < B) : Rd w B k A l := fun hn => by
  obtain ⟨ad, e, hb, hc⟩ := h hn
  exact ⟨ad, e, hs _ hb, hc⟩
theorem Rd.rp (h : Rd w B k A l) : Rp w (· < B) k A l := h
theorem Rp.cut (h : Rp w S k A l) (i j c : Nat) (hj : j ≤ l.length) (hc : j ≤ c) : Rp w S k (if c = i then A else A.map (·.add i)) ((l.take j).drop i) := by
  intro hn
  simp only [List.length_drop, List.length_take] at hn
  obtain ⟨ad, rfl, hb, hcell⟩ := h (by omega)
  rw [if_neg (by omega)]
  refine ⟨ad.add i, rfl, by rw [block_plus]; exact hb, fun m hm => ?_⟩
  simp only [List.length_drop, List.length_take] at hm
  rw [plus_plus, gt_drop, gt_take _ _ _ (by omega)]
  exact hcell _ (by omega)
theorem Rp.tail (h : Rp w S k A l) (i c : Nat) (hc : l.length ≤ c) : Rp w S k (if c = i then A else A.map (·.add i)) (l.drop i) := by
  have := h.cut i l.length c (Nat.le_refl _) hc
  rwa [List.take_length] at this
theorem Rp.take_ (h : Rp w S k A l) (j : Nat) : Rp w S k A (l.take j) := by
  intro hn
  simp only [List.length_take] at hn
  obtain ⟨ad, rfl, hb, hcell⟩ := h (by omega)
  refine ⟨ad, rfl, hb, fun m hm => ?_⟩
  simp only [List.length_take] at hm
  rw [gt_take _ _ _ (by omega)]
  exact hcell _ (by omega)
end
theorem Own.rp {w : World} {b e n c g : Nat} {k : IntKind} {l : List Int} (h : Own w b e k (.slice (some ⟨g, 0, none⟩) n c) l) : Rp w (· = g) k (some ⟨g, 0, none⟩) l := fun _ =>
  ⟨_, rfl, rfl, fun i hi => by rw [plus_head]; exact h.cell i hi⟩

theorem Own.grewK {w w' : World} {b e : Nat} {k : IntKind} {v : Value} {l : List Int} (hO : Own w b e k v l) (hg : w.grownBy w' v.ownBlock) (hb : b ≤ w.heap.size) : Kept b (fun _ => False) w w' :=
  (Kept.refl b _ w).grew hO hg (Nat.le_refl _) hb
/-- A row of the call's own that is not empty: where it lies. -/
theorem Own.where_ {w : World} {b e n c : Nat} {k : IntKind} {A : Option Addr} {l : List Int} (h : Own w b e k (.slice A n c) l) (hn : 0 < l.length) :
    ∃ g, A = some ⟨g, 0, none⟩ ∧ n = l.length ∧ b ≤ g ∧ g < w.heap.size ∧ l.length ≤ c := by
  obtain ⟨A', c', hv, hc, _, hr, hA⟩ := h.form
  injection hv with h1 h2 h3
  subst h1 h2 h3
  rcases hA with rfl | ⟨g, rfl, h4, h5⟩
  · obtain ⟨ad, h, _⟩ := hr hn; cases h
  · exact ⟨g, rfl, rfl, h4, h5, hc⟩
theorem Own.nilcap {w : World} {b e n c : Nat} {k : IntKind} {A : Option Addr} {l : List Int} (h : Own w b e k (.slice A n c) l) : A = none → c = 0 := by
  rintro rfl
  rcases h.2 with ⟨h1, _⟩ | ⟨g, cap, cur, h1, _⟩
  · injection h1
  · cases h1
section
variable {P : Program}
theorem wpList_min_nat {w : World} {ops : Array Oper} {rest : List Oper} {o : Oper} {a : Act} {Q : Exit → Act → World → Prop} (hgd : o.guard = none) (x y : Operand) (ts : Array TypeId)
    (ho : o.op = .call { callee := .builtin .min, args := #[x, y], argTypes := ts }) (p q m : Nat) (hx : a.eval x = .int .i64 p) (hy : a.eval y = .int .i64 q) (hm : min p q = m)
    (h : wpList P ops Q rest (a.put o.dst (.int .i64 m)) w) : wpList P ops Q (o :: rest) a w := by
  refine wpList_plain hgd fun K hK => ?_
  have e : (if (q : Int) < (p : Int) then (q : Int) else (p : Int)) = (m : Int) := by split <;> omega
  unfold Oper.wp execOp
  simp only [ho, resolve, invoke, builtin, Sem.run_bind, Sem.run_pure, Result.andThen_ok, List.map_toArray, List.map_cons, List.map_nil, hx, hy, run_min_int2, e]
  exact hK _ _ h
/-- One append, the new list and its length named. -/
theorem wpList_app {w : World} {ops : Array Oper} {rest : List Oper} {o : Oper} {a : Act} {Q : Exit → Act → World → Prop} (hgd : o.guard = none) (s x : Operand) (t e : TypeId) (k : IntKind) (bytes : Nat)
    (ho : o.op = .call { callee := .builtin .append, args := #[s, x], argTypes := #[t, t] })
    (ht : P.underlying t = some (.slice e)) (hinfo : (P.info? e).map (fun i => (i.zero, i.size, i.bytes)) = some (some (.int k 0), 1, bytes))
    {b B : Nat} {v : Value} {l m : List Int} {A : Option Addr} {n c : Nat} (hown : Own w b e k v l) (hr : Rd w B k A m) (hs : a.eval s = v) (hx : a.eval x = .slice A n c) (hn : m.length = n) (lm : List Int) (hlm : l ++ m = lm) (N : Nat) (hN : lm.length = N)
    (hlim : N * bytes ≤ 140737488355328) (hmax : N ≤ maxLen) (hb : b ≤ w.heap.size)
    (h : ∀ A' c' w', Own w' b e k (.slice A' N c') lm → w.grownBy w' v.ownBlock → ((Value.slice A' N c').ownBlock = v.ownBlock ∨ (Value.slice A' N c').ownBlock = some w.heap.size) →
      wpList P ops Q rest (a.put o.dst (.slice A' N c')) w') : wpList P ops Q (o :: rest) a w := by
  subst hN hlm
  have e1 : (l ++ m).length = l.length + m.length := List.length_append
  rw [e1] at hlim hmax h
  exact wpList_append_nums hgd s x t e k bytes ho ht hinfo hown hr hs hx hn hlim hmax hb h
/-- One append, AT A STEP OF A REGION THAT DRAWS. -/
theorem step_append_nums {w : World} {ops : Array Oper} {o : Oper} {a : Act} {K : Act → World → Prop} {Q : Exit → Act → World → Prop} {E : Prop} (hgd : o.guard = none) (s x : Operand) (t e : TypeId) (k : IntKind) (bytes : Nat)
    (ho : o.op = .call { callee := .builtin .append, args := #[s, x], argTypes := #[t, t] })
    (ht : P.underlying t = some (.slice e)) (hinfo : (P.info? e).map (fun i => (i.zero, i.size, i.bytes)) = some (some (.int k 0), 1, bytes))
    {b B : Nat} {v : Value} {l m : List Int} {A : Option Addr} {n c : Nat} (hown : Own w b e k v l) (hr : Rd w B k A m) (hs : a.eval s = v) (hx : a.eval x = .slice A n c) (hn : m.length = n) (hlim : (l.length + m.length) * bytes ≤ 140737488355328) (hmax : l.length + m.length ≤ maxLen) (hb : b ≤ w.heap.size)
    (h : ∀ A' c' w', Own w' b e k (.slice A' (l.length + m.length) c') (l ++ m) → w.grownBy w' v.ownBlock → ((Value.slice A' (l.length + m.length) c').ownBlock = v.ownBlock ∨ (Value.slice A' (l.length + m.length) c').ownBlock = some w.heap.size) →
      K (a.put o.dst (.slice A' (l.length + m.length) c')) w') :
    if Region.wanted o (yielded ops a.tmps) = true then Oper.wp P o a w K Q else E := by
  have hw : Region.wanted o (yielded ops a.tmps) = true := by simp [Region.wanted, hgd]
  rw [if_pos hw]
  obtain ⟨A', c', w', hrun, h2, h3, h4⟩ := run_append_nums (P := P) w t o.type e k bytes ht hinfo hown hr hn hlim hmax hb (c := c)
  unfold Oper.wp execOp
  simp only [ho, resolve, invoke, builtin, Sem.run_bind, Sem.run_pure, Result.andThen_ok, List.map_toArray, List.map_cons, List.map_nil, hs, hx, hrun]
  exact h A' c' w' h2 h3 h4
end

end Go.Proofs.YteidkdpfjponfaaDoor
