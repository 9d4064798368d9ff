/- A row of numbers of the call's own that lies anywhere in its block: cut, appended to. Conditions: none of the program. -/
import Derived.Test.YteidkdpfjponfaaDoorRp
import Derived.Test.YteidkdpfjponfaaDoorPart
import Derived.Deep.AppendSrc
import Derived.Deep.Upon
namespace Go.Proofs.YteidkdpfjponfaaDoor
open Go.RowKit
set_option linter.unusedVariables false
set_option linter.unusedSimpArgs false

structure Lie (w : World) (b e : Nat) (k : IntKind) (v : Value) (l : List Int) : Prop where
  out : (v = .slice none 0 0 ∧ l = []) ∨ ∃ g off c cs, v = .slice (some ⟨g, off, none⟩) l.length c ∧ b ≤ g ∧ w.heap[g]? = some (.cells cs e (0, 0)) ∧ off + c ≤ cs.size ∧ l.length ≤ c ∧ c ≤ maxLen ∧ ∀ i, i < l.length → cs[off + i]? = some (.int k (gt l i))
section
variable {w w' : World} {b b' e B : Nat} {k : IntKind} {v : Value} {l : List Int} {S : Nat → Prop}
theorem Lie.nil (w : World) (b e : Nat) (k : IntKind) : Lie w b e k (.slice none 0 0) [] := ⟨.inl ⟨rfl, rfl⟩⟩
theorem Lie.form (h : Lie w b e k v l) : ∃ A c, v = .slice A l.length c ∧ l.length ≤ c ∧ c ≤ maxLen ∧ Rd w w.heap.size k A l ∧ (A = none → c = 0) := by
  rcases h.out with ⟨rfl, rfl⟩ | ⟨g, off, c, cs, rfl, hb, hg, hc, hl, hm, hcs⟩
  · exact ⟨none, 0, rfl, Nat.le_refl _, Nat.zero_le _, Rd.nil, fun _ => rfl⟩
  · refine ⟨_, c, rfl, hl, hm, fun _ => ⟨_, rfl, (Array.getElem?_eq_some_iff.1 hg).1, fun i hi => ?_⟩, fun h => by cases h⟩
    have hadd : (⟨g, off, none⟩ : Addr).add i = ⟨g, off + i, none⟩ := Addr.add_mid g off i
    rw [hadd, cell_of_row w g (off + i) cs e (0, 0) hg]
    exact hcs i hi
theorem Lie.lt (h : Lie w b e k v l) : ∀ g, v.ownBlock = some g → b ≤ g ∧ g < w.heap.size := fun g hg => by
  rcases h.out with ⟨rfl, rfl⟩ | ⟨g', off, c, cs, rfl, hb, hgg, _⟩
  · cases hg
  · injection hg with hg
    subst hg
    exact ⟨hb, (Array.getElem?_eq_some_iff.1 hgg).1⟩
theorem Lie.keep (h : Lie w b e k v l) (hg : ∀ g, v.ownBlock = some g → w'.heap[g]? = w.heap[g]?) : Lie w' b e k v l := by
  rcases h.out with h | ⟨g, off, c, cs, rfl, hb, hgg, rest⟩
  · exact ⟨.inl h⟩
  · exact ⟨.inr ⟨g, off, c, cs, rfl, hb, by rw [hg g rfl]; exact hgg, rest⟩⟩
theorem Lie.kept (h : Lie w b e k v l) (hk : Kept B S w w') (hB : w.heap.size ≤ B) (hs : ∀ g, v.ownBlock = some g → ¬ S g) : Lie w' b e k v l :=
  h.keep fun g hg => hk.block g (by have := (h.lt g hg).2; omega) (hs g hg)
theorem Lie.below (h : Lie w b e k v l) (hk : Below B w w') (hB : w.heap.size ≤ B) : Lie w' b e k v l := h.keep fun g hg => hk.block g (by have := (h.lt g hg).2; omega)
theorem Lie.drewN (h : Lie w b e k v l) (m : Nat) : Lie (w.drewN m) b e k v l := ⟨h.out⟩
theorem Lie.drew (h : Lie w b e k v l) : Lie w.drew b e k v l := ⟨h.out⟩
theorem Lie.alloc (h : Lie w b e k v l) (o : Obj) : Lie (w.alloc o) b e k v l := h.keep fun g hg => Below.heap_alloc w o g (h.lt g hg).2
theorem Lie.other (h : Lie w b e k v l) (c i : Nat) (u : Value) (hne : ∀ g, v.ownBlock = some g → g ≠ c) : Lie (w.setCell ⟨c, i, none⟩ u) b e k v l :=
  h.keep fun g hg => heap_setCell_other w _ g u (hne g hg)
theorem Lie.otherCells (h : Lie w b e k v l) (c o : Nat) (vs : List Value) (hne : ∀ g, v.ownBlock = some g → g ≠ c) : Lie (w.setCells c o vs) b e k v l :=
  h.keep fun g hg => (setCells_else vs o w).2.2.2.2 g (hne g hg)
theorem Lie.low (h : Lie w b e k v l) (hb : b' ≤ b) : Lie w b' e k v l := by
  rcases h.out with h | ⟨g, off, c, cs, hv, hbg, rest⟩
  · exact ⟨.inl h⟩
  · exact ⟨.inr ⟨g, off, c, cs, hv, by omega, rest⟩⟩
theorem Lie.grown {row : Option Nat} (h : Lie w b e k v l) (hg : w.grownBy w' row) (hne : ∀ g, v.ownBlock = some g → row ≠ some g) : Lie w' b e k v l :=
  h.keep fun g hgg => hg.block g (h.lt g hgg).2 (fun e => hne g hgg e.symm)
theorem Lie.of_own (h : Own w b e k v l) : Lie w b e k v l := by
  rcases h.2 with ⟨rfl, hn⟩ | ⟨g, cap, cur, rfl, hb, hg, hnc, hcm, hcs, htake⟩
  · exact ⟨.inl ⟨rfl, List.eq_nil_of_length_eq_zero hn⟩⟩
  · refine ⟨.inr ⟨g, 0, cap, _, rfl, hb, hg, by rw [Nat.zero_add]; simp at hcs ⊢; omega, hnc, hcm, fun i hi => ?_⟩⟩
    have h1 := World.ownsRow.cells h (g := g) rfl i _ (nums_get k l i hi)
    rw [Nat.zero_add, ← cell_of_row w g i _ e (0, 0) hg]
    have hadd : (⟨g, 0, none⟩ : Addr).add i = ⟨g, i, none⟩ := by rw [Addr.add_mid, Nat.zero_add]
    first | exact h1 | (rw [← hadd]; exact h1)
/-- Cut from a place on. -/
theorem Lie.cut {A : Option Addr} {n c : Nat} (h : Lie w b e k (.slice A n c) l) (lo : Nat) (hlo : lo ≤ l.length) : Lie w b e k (.slice (if c = lo then A else A.map (·.add lo)) (l.length - lo) (c - lo)) (l.drop lo) := by
  rcases h.out with ⟨hv, rfl⟩ | ⟨g, off, c', cs, hv, hb, hg, hc, hl, hm, hcs⟩
  · injection hv with h1 h2 h3
    subst h1 h3
    have : lo = 0 := by simpa using hlo
    subst this
    exact ⟨.inl ⟨by simp, rfl⟩⟩
  · injection hv with h1 h2 h3
    subst h1 h3
    by_cases hcl : c = lo
    · rw [if_pos hcl]
      refine ⟨.inr ⟨g, off, c - lo, cs, by rw [List.length_drop], hb, hg, by omega, by rw [List.length_drop]; omega, by omega, fun i hi => ?_⟩⟩
      rw [List.length_drop] at hi
      omega
    · rw [if_neg hcl]
      have hadd : (⟨g, off, none⟩ : Addr).add lo = ⟨g, off + lo, none⟩ := Addr.add_mid g off lo
      refine ⟨.inr ⟨g, off + lo, c - lo, cs, by simp only [Option.map_some, hadd, List.length_drop], hb, hg, by omega, by rw [List.length_drop]; omega, by omega, fun i hi => ?_⟩⟩
      rw [List.length_drop] at hi
      rw [gt_drop, Nat.add_assoc]
      exact hcs (lo + i) (by omega)
end

/-- THE LAW OF APPENDING. -/
theorem run_append_lie {P : Program} (w : World) (t ty e : TypeId) (k : IntKind) (bytes : Nat) (ht : P.underlying t = some (.slice e)) (hinfo : (P.info? e).map (fun i => (i.zero, i.size, i.bytes)) = some (some (.int k 0), 1, bytes))
    {b B : Nat} {v : Value} {l m : List Int} {A : Option Addr} {n c : Nat} (hown : Lie w b e k v l) (hr : Rd w B k A m) (hn : m.length = n) (hlim : (l.length + m.length) * bytes ≤ 140737488355328) (hmax : l.length + m.length ≤ maxLen) (hb : b ≤ w.heap.size) :
    ∃ A' c' w', (Builtin.append_ #[t, t] ty #[v, .slice A n c]).run P w = .ok (.slice A' (l.length + m.length) c') w' ∧ Lie w' b e k (.slice A' (l.length + m.length) c') (l ++ m) ∧ w.grownBy w' v.ownBlock ∧ ((Value.slice A' (l.length + m.length) c').ownBlock = v.ownBlock ∨ (Value.slice A' (l.length + m.length) c').ownBlock = some w.heap.size) := by
  obtain ⟨i, hi, hz0, hz1, hz2⟩ := info_parts hinfo
  subst hn
  have hbig : l.length + m.length ≤ 9223372036854775807 := by simp only [maxLen] at hmax; omega
  rcases Nat.eq_zero_or_pos m.length with h0 | h0
  · have hm0 : m = [] := List.eq_nil_of_length_eq_zero h0
    subst hm0
    obtain ⟨A', c', rfl, hlc, _⟩ := hown.form
    refine ⟨A', c', w, ?_, by simpa using hown, World.grownBy.refl w _, .inl rfl⟩
    have hs : Src P i.size t (.slice A 0 c) 0 [] w := by
      cases A with
      | none => exact Src.ofNil w ht c
      | some a => exact Src.ofSlice w ht a 0 c [] (by simp) (fun j u hu => by simp at hu) (fun u hu => by simp at hu)
    exact run_append_nothing w t t ty e i ht hi A' l.length c' hlc _ hs
  · obtain ⟨ad, rfl, _, hc⟩ := hr h0
    have hs : Src P i.size t (.slice (some ad) m.length c) m.length (nums k m) w := Src.ofSlice w ht ad m.length c (nums k m) (by rw [nums_len, hz1, Nat.mul_one]) (fun j u hu => by
        have hj : j < m.length := by have := (List.getElem?_eq_some_iff.1 hu).1; rwa [nums_len] at this
        rw [nums_get k m j hj] at hu
        injection hu with hu
        rw [hc j hj, hu]) (nums_one k m)
    have hgrow : ∀ (base : Option Addr) (cap : Nat), cap < l.length + m.length → (Builtin.firstCells i.size l.length (.slice base l.length cap)).run P w.drew = .ok (nums k l).toArray w.drew →
        ∃ A' c' w', (Builtin.append_ #[t, t] ty #[.slice base l.length cap, .slice (some ad) m.length c]).run P w = .ok (.slice A' (l.length + m.length) c') w' ∧ Lie w' b e k (.slice A' (l.length + m.length) c') (l ++ m) ∧ w.grownBy w' (Value.slice base l.length cap).ownBlock ∧ ((Value.slice A' (l.length + m.length) c').ownBlock = (Value.slice base l.length cap).ownBlock ∨ (Value.slice A' (l.length + m.length) c').ownBlock = some w.heap.size) := fun base cap hcap hold => by
      have hfit : Builtin.nextslicecap (l.length + m.length) cap * i.bytes ≤ 281474976710656 := by rw [hz2]; exact growslice_fits hcap hlim
      have hrun := run_append_grow_src w t t ty e i (.int k 0) ht hi hz0 base l.length cap (nums k l) hold _ m.length (nums k m) hs hcap (by omega) hfit
      have hge := grownCap_ge w (l.length + m.length) cap e
      refine ⟨_, _, _, hrun, ⟨.inr ⟨w.heap.size, 0, grownCap w (l.length + m.length) cap e, _, by rw [List.length_append], hb, heap_alloc_new w.drew _, ?_, by rw [List.length_append]; exact hge, grownCap_le_maxLen w _ cap e hmax, fun j hj => ?_⟩⟩, ?_, .inr rfl⟩
      · simp [nums_len, Builtin.zeroCells, Value.cells]
        omega
      · rw [List.length_append] at hj
        rw [Nat.zero_add, Array.getElem?_append_left (by simp [nums_len]; omega)]
        have := nums_get k (l ++ m) j (by rw [List.length_append]; exact hj)
        simpa [nums] using this
      · exact ⟨rfl, rfl, rfl, by simp, fun j hj _ => by show (w.drew.alloc _).heap[j]? = _; rw [Below.heap_alloc w.drew _ j hj]; rfl⟩
    rcases hown.out with ⟨rfl, rfl⟩ | ⟨g, off, cap, cs, rfl, hbg, hg, hcs, hlc, hcm, hcell⟩
    · have := hgrow none 0 (by simpa using h0) (by simp [Builtin.firstCells, nums])
      simpa using this
    · by_cases hroom : l.length + m.length ≤ cap
      · have hrun := run_append_room_src w t t ty e i ht hi g off l.length cap _ m.length (nums k m) hs hroom (fun j hj => by
            rw [nums_len] at hj
            rw [hz1, Nat.mul_one, cell_of_row w g _ cs e (0, 0) hg]
            simp; omega) (fun j hj => frozen_of_row w g _ cs e hg)
        rw [hz1, Nat.mul_one] at hrun
        obtain ⟨k1, k2, k3, k4, k5⟩ := setCells_else (g := g) (nums k m) (off + l.length) w
        have hsplit : cs.toList = cs.toList.take (off + l.length) ++ ((cs.toList.drop (off + l.length)).take m.length ++ (cs.toList.drop (off + l.length)).drop m.length) := by
          rw [List.take_append_drop, List.take_append_drop]
        have hcl : cs.toList.length = cs.size := by simp
        have hrow := setCells_row (g := g) (e := e) (nums k m) (off + l.length) w (cs.toList.take (off + l.length)) ((cs.toList.drop (off + l.length)).take m.length) ((cs.toList.drop (off + l.length)).drop m.length)
          (by rw [nums_len, List.length_take, List.length_drop, hcl]; omega) (by rw [List.length_take, hcl]; omega) (by rw [← hsplit]; exact hg)
        refine ⟨_, _, _, hrun, ⟨.inr ⟨g, off, cap, _, by rw [List.length_append], hbg, hrow, ?_, by rw [List.length_append]; exact hroom, hcm, fun j hj => ?_⟩⟩, ⟨k1, k2, k3, by rw [k4]; exact Nat.le_refl _, fun j hj hne => k5 j (fun e => hne (by rw [e]; rfl))⟩, .inl rfl⟩
        · simp only [List.size_toArray, List.length_append, List.length_take, List.length_drop, nums_len, hcl]
          omega
        · rw [List.length_append] at hj
          rw [List.getElem?_toArray]
          by_cases hjl : j < l.length
          · rw [List.getElem?_append_left (by rw [List.length_take, hcl]; omega), List.getElem?_take, if_pos (by omega), gt_append_left _ _ _ hjl, Array.getElem?_toList]
            exact hcell j hjl
          · rw [List.getElem?_append_right (by rw [List.length_take, hcl]; omega), List.length_take, hcl, Nat.min_eq_left (by omega), List.getElem?_append_left (by rw [nums_len]; omega), gt_append_right _ _ _ (by omega), show off + j - (off + l.length) = j - l.length by omega]
            exact nums_get k m _ (by omega)
      · refine hgrow (some ⟨g, off, none⟩) cap (by omega) ?_
        have := run_firstCells_some (P := P) w.drew i.size l.length ⟨g, off, none⟩ l.length cap (nums k l) (by rw [nums_len, hz1, Nat.mul_one]) (fun j u hu => by
          have hj : j < l.length := by have := (List.getElem?_eq_some_iff.1 hu).1; rwa [nums_len] at this
          rw [nums_get k l j hj] at hu
          injection hu with hu
          rw [Addr.add_mid, ← hu]
          have : w.drew.cell? ⟨g, off + j, none⟩ = cs[off + j]? := cell_of_row w g (off + j) cs e (0, 0) hg
          rw [this]
          exact hcell j hj)
        exact this
theorem wpList_append_lie {P : Program} {w : World} {ops : Array Oper} {rest : List Oper} {o : Oper} {a : Act} {Q : Exit → Act → World → Prop} (hgd : o.guard = none) (s x : Operand) (t e : TypeId) (k : IntKind) (bytes : Nat)
    (ho : o.op = .call { callee := .builtin .append, args := #[s, x], argTypes := #[t, t] })
    (ht : P.underlying t = some (.slice e)) (hinfo : (P.info? e).map (fun i => (i.zero, i.size, i.bytes)) = some (some (.int k 0), 1, bytes))
    {b B : Nat} {v : Value} {l m : List Int} {A : Option Addr} {n c : Nat} (hown : Lie w b e k v l) (hr : Rd w B k A m) (hs : a.eval s = v) (hx : a.eval x = .slice A n c) (hn : m.length = n) (lm : List Int) (hlm : l ++ m = lm) (N : Nat) (hN : lm.length = N)
    (hlim : N * bytes ≤ 140737488355328) (hmax : N ≤ maxLen) (hb : b ≤ w.heap.size)
    (h : ∀ A' c' w', Lie w' b e k (.slice A' N c') lm → w.grownBy w' v.ownBlock → ((Value.slice A' N c').ownBlock = v.ownBlock ∨ (Value.slice A' N c').ownBlock = some w.heap.size) → wpList P ops Q rest (a.put o.dst (.slice A' N c')) w') : wpList P ops Q (o :: rest) a w := by
  subst hN hlm
  have e1 : (l ++ m).length = l.length + m.length := List.length_append
  rw [e1] at hlim hmax h
  refine wpList_plain hgd fun K hK => ?_
  obtain ⟨A', c', w', hrun, h2, h3, h4⟩ := run_append_lie (P := P) w t o.type e k bytes ht hinfo hown hr hn hlim hmax hb (c := c)
  unfold Oper.wp execOp
  simp only [ho, resolve, invoke, builtin, Sem.run_bind, Sem.run_pure, Result.andThen_ok, List.map_toArray, List.map_cons, List.map_nil, hs, hx, hrun]
  exact hK _ _ (h A' c' w' h2 h3 h4)
theorem Lie.grewK {w w' : World} {b e : Nat} {k : IntKind} {v : Value} {l : List Int} (hO : Lie w b e k v l) (hg : w.grownBy w' v.ownBlock) (hb : b ≤ w.heap.size) : Kept b (fun _ => False) w w' :=
  (Kept.refl b _ w).grown hg hb fun g hgg => .inl (hO.lt g hgg).1
end Go.Proofs.YteidkdpfjponfaaDoor
