/- An array that is the first field of a struct's block: loaded and stored; one cell more behind it. Conditions: none of the program. -/
import Derived.Test.YteidkdpfjponfaaDoorRow
import Derived.Deep.MidRow
namespace Go.Proofs.YteidkdpfjponfaaDoor
open Go.RowKit
set_option linter.unusedVariables false

theorem setCells_row {g e : Nat} : ∀ (vs : List Value) (o : Nat) (w : World) (pre old post : List Value), old.length = vs.length → pre.length = o →
    w.heap[g]? = some (.cells (pre ++ (old ++ post)).toArray e (0, 0)) → (w.setCells g o vs).heap[g]? = some (.cells (pre ++ (vs ++ post)).toArray e (0, 0))
  | [], o, w, pre, [], post, _, _, h => by simpa [World.setCells] using h
  | v :: vs, o, w, pre, u :: old, post, hl, ho, h => by
    rw [World.setCells]
    have h1 := heap_setCell_same w g o _ e v h
    have h2 := setCells_row (e := e) vs (o + 1) (w.setCell ⟨g, o, none⟩ v) (pre ++ [v]) old post (by simpa using hl) (by simp [ho]) (by
      rw [h1]
      subst ho
      simp)
    simpa only [List.append_assoc, List.cons_append, List.nil_append] using h2
  | [], _, _, _, _ :: _, _, hl, _, _ => by simp at hl
  | _ :: _, _, _, _, [], _, hl, _, _ => by simp at hl
theorem setCells_else {g : Nat} : ∀ (vs : List Value) (o : Nat) (w : World), (w.setCells g o vs).os = w.os ∧ (w.setCells g o vs).tape = w.tape ∧ (w.setCells g o vs).output = w.output ∧
    (w.setCells g o vs).heap.size = w.heap.size ∧ ∀ k, k ≠ g → (w.setCells g o vs).heap[k]? = w.heap[k]?
  | [], _, _ => ⟨rfl, rfl, rfl, rfl, fun _ _ => rfl⟩
  | v :: vs, o, w => by
    rw [World.setCells]
    obtain ⟨h1, h2, h3, h4, h5⟩ := setCells_else (g := g) vs (o + 1) (w.setCell ⟨g, o, none⟩ v)
    exact ⟨h1, h2, h3, by rw [h4]; simp [World.setCell], fun k hk => by rw [h5 k hk]; exact heap_setCell_other w _ k v hk⟩
theorem Kept.setCells {B : Nat} {S : Nat → Prop} {w w' : World} (h : Kept B S w w') (g o : Nat) (vs : List Value) (hg : B ≤ g ∨ S g) : Kept B S w (w'.setCells g o vs) := by
  obtain ⟨h1, h2, h3, h4, h5⟩ := setCells_else (g := g) vs o w'
  refine ⟨h1.trans h.os, h2.trans h.tape, h3.trans h.output, by rw [h4]; exact h.size, fun k hk hs => ?_⟩
  rw [h5 k (by rintro rfl; rcases hg with h | h; exact absurd hk (by omega); exact hs h)]
  exact h.block k hk hs

/-- A block of numbers and one value behind them. -/
def Two (w : World) (g T : Nat) (k : IntKind) (s : List Int) (v : Value) : Prop := w.heap[g]? = some (.cells (nums k s ++ [v]).toArray T (0, 0))
section
variable {w w' : World} {g T : Nat} {k : IntKind} {s s' : List Int} {v v' : Value}
theorem Two.lt (h : Two w g T k s v) : g < w.heap.size := (Array.getElem?_eq_some_iff.1 h).1
theorem Two.range (h : Two w g T k s v) : w.rangeAt g 0 (nums k s) := fun j u hu => by
  have hj : j < (nums k s).length := (List.getElem?_eq_some_iff.1 hu).1
  rw [Nat.zero_add, cell_of_row w g j _ T (0, 0) h, ← hu]
  simp [List.getElem?_append_left hj]
theorem Two.there (h : Two w g T k s v) : w.there g 0 s.length := fun j hj => by
  have h1 := h.range j _ (nums_get k s j hj)
  exact ⟨by rw [h1]; rfl, frozen_of_row w g _ _ T h⟩
theorem Two.last (h : Two w g T k s v) : w.cell? ⟨g, s.length, none⟩ = some v := by
  rw [cell_of_row w g _ _ T (0, 0) h]
  simp [nums_len]
theorem Two.free (h : Two w g T k s v) (i : Nat) : w.frozen? ⟨g, i, none⟩ = false := frozen_of_row w g i _ T h
theorem Two.drew (h : Two w g T k s v) : Two w.drew g T k s v := h
theorem Two.drewN (h : Two w g T k s v) (n : Nat) : Two (w.drewN n) g T k s v := h
theorem Two.alloc (h : Two w g T k s v) (o : Obj) : Two (w.alloc o) g T k s v := by
  have := h.lt
  unfold Two at *
  rw [Below.heap_alloc w o g this]; exact h
theorem Two.other (h : Two w g T k s v) (c i : Nat) (u : Value) (hne : g ≠ c) : Two (w.setCell ⟨c, i, none⟩ u) g T k s v := by
  unfold Two at *
  rw [heap_setCell_other w _ g u hne]; exact h
theorem Two.below {B : Nat} (h : Two w g T k s v) (hk : Below B w w') (hb : g < B) : Two w' g T k s v := by
  unfold Two at *; rw [hk.block g hb]; exact h
theorem Two.kept {B : Nat} {S : Nat → Prop} (h : Two w g T k s v) (hk : Kept B S w w') (hb : g < B) (hs : ¬ S g) : Two w' g T k s v := by
  unfold Two at *; rw [hk.block g hb hs]; exact h
theorem Two.grown {row : Option Nat} (h : Two w g T k s v) (hg : w.grownBy w' row) (hne : row ≠ some g) : Two w' g T k s v := by
  have hl := h.lt
  unfold Two at *; rw [hg.block g hl (fun e => hne e.symm)]; exact h
theorem Two.setNums (h : Two w g T k s v) (hl : s'.length = s.length) : Two (w.setCells g 0 (nums k s')) g T k s' v :=
  setCells_row (nums k s') 0 w [] (nums k s) [v] (by simp [nums_len, hl]) rfl h
theorem Two.setLast (h : Two w g T k s v) : Two (w.setCell ⟨g, s.length, none⟩ v') g T k s v' := by
  unfold Two at *
  rw [heap_setCell_same w g _ _ T v' h]
  simp [nums]
end
section
variable {P : Program} {ops : Array Oper} {rest : List Oper} {o : Oper} {a : Act} {w : World} {Q : Exit → Act → World → Prop}
theorem wpList_load_two {g T : Nat} {k : IntKind} {s : List Int} {v : Value} {d : TypeDesc} (hgd : o.guard = none) (ty : TypeId) (x : Operand) (ho : o.op = .load ty x) (hx : a.eval x = .pointer (some ⟨g, 0, none⟩)) (h : Two w g T k s v)
    (hu : P.underlying ty = some d) (hd : d.isRow = true) (n : Nat) (hi : (P.info? ty).map (·.size) = some n) (hn : s.length = n)
    (hk : wpList P ops Q rest (a.put o.dst (.agg (U k s))) w) : wpList P ops Q (o :: rest) a w :=
  wpList_load_mid hgd ty x ho g 0 hx (nums k s) d h.range hu hd (by rw [nums_len, hn]; exact hi) hk
theorem wpList_store_two {g T : Nat} {k : IntKind} {s s' : List Int} {v : Value} (hgd : o.guard = none) (ty : TypeId) (x y : Operand) (ho : o.op = .store ty x y) (hx : a.eval x = .pointer (some ⟨g, 0, none⟩)) (hy : a.eval y = .agg (U k s')) (h : Two w g T k s v)
    (n : Nat) (hi : (P.info? ty).map (·.size) = some n) (hn : s.length = n) (hn' : s'.length = n)
    (hk : wpList P ops Q rest (a.put o.dst undef) (w.setCells g 0 (nums k s'))) : wpList P ops Q (o :: rest) a w :=
  wpList_store_mid hgd ty x y ho g 0 (U k s') hx hy (by rw [U_size, hn', ← hn]; exact h.there) (by rw [U_size, hn']; exact hi) (U_one k s') (by simpa [U, nums] using hk)
end

end Go.Proofs.YteidkdpfjponfaaDoor
