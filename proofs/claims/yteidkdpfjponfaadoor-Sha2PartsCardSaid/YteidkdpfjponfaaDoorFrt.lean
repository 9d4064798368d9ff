/- An array that is the first field of a struct's block, values behind it: loaded and stored. Conditions: none of the program. -/
import Derived.Test.YteidkdpfjponfaaDoorPart
import Derived.Test.YteidkdpfjponfaaDoorHd
namespace Go.Proofs.YteidkdpfjponfaaDoor
open Go.RowKit
set_option linter.unusedVariables false
set_option linter.unusedSimpArgs false

/-- A block of numbers and values behind them. -/
def Frt (w : World) (g T : Nat) (k : IntKind) (s : List Int) (post : List Value) : Prop := w.heap[g]? = some (.cells (nums k s ++ post).toArray T (0, 0))
section
variable {w w' : World} {g T : Nat} {k : IntKind} {s s' : List Int} {post : List Value}
theorem Frt.lt (h : Frt w g T k s post) : g < w.heap.size := (Array.getElem?_eq_some_iff.1 h).1
theorem Frt.range (h : Frt w g T k s post) : w.rangeAt g 0 (nums k s) := fun j u hu => by
  have hj : j < (nums k s).length := (List.getElem?_eq_some_iff.1 hu).1
  rw [Nat.zero_add, cell_of_row w g j _ T (0, 0) h, ← hu]
  simp [List.getElem?_append_left hj]
theorem Frt.there (h : Frt w g T k s post) : w.there g 0 s.length := fun j hj => by
  have h1 := h.range j _ (nums_get k s j hj)
  exact ⟨by rw [h1]; rfl, frozen_of_row w g _ _ T h⟩
theorem Frt.at_ (h : Frt w g T k s post) (j o : Nat) (v : Value) (ho : s.length + j = o) (hv : post[j]? = some v) : w.cell? ⟨g, o, none⟩ = some v := by
  subst ho
  rw [cell_of_row w g _ _ T (0, 0) h, ← hv]
  simp [nums_len, List.getElem?_append_right]
theorem Frt.free (h : Frt w g T k s post) (i : Nat) : w.frozen? ⟨g, i, none⟩ = false := frozen_of_row w g i _ T h
theorem Frt.drew (h : Frt w g T k s post) : Frt w.drew g T k s post := h
theorem Frt.drewN (h : Frt w g T k s post) (n : Nat) : Frt (w.drewN n) g T k s post := h
theorem Frt.alloc (h : Frt w g T k s post) (o : Obj) : Frt (w.alloc o) g T k s post := by
  have := h.lt
  unfold Frt at *
  rw [Below.heap_alloc w o g this]; exact h
theorem Frt.other (h : Frt w g T k s post) (c i : Nat) (u : Value) (hne : g ≠ c) : Frt (w.setCell ⟨c, i, none⟩ u) g T k s post := by
  unfold Frt at *
  rw [heap_setCell_other w _ g u hne]; exact h
theorem Frt.otherRow (h : Frt w g T k s post) (c : Nat) (cs : Array Value) (hne : g ≠ c) : Frt (w.setRow c cs) g T k s post := by
  unfold Frt at *; rw [setRow_other w c g cs hne]; exact h
theorem Frt.below {B : Nat} (h : Frt w g T k s post) (hk : Below B w w') (hb : g < B) : Frt w' g T k s post := by
  unfold Frt at *; rw [hk.block g hb]; exact h
theorem Frt.kept {B : Nat} {S : Nat → Prop} (h : Frt w g T k s post) (hk : Kept B S w w') (hb : g < B) (hs : ¬ S g) : Frt w' g T k s post := by
  unfold Frt at *; rw [hk.block g hb hs]; exact h
theorem Frt.grown {row : Option Nat} (h : Frt w g T k s post) (hg : w.grownBy w' row) (hne : row ≠ some g) : Frt w' g T k s post := by
  have hl := h.lt
  unfold Frt at *; rw [hg.block g hl (fun e => hne e.symm)]; exact h
theorem Frt.setNums (h : Frt w g T k s post) (hl : s'.length = s.length) : Frt (w.setCells g 0 (nums k s')) g T k s' post :=
  setCells_row (nums k s') 0 w [] (nums k s) post (by simp [nums_len, hl]) rfl h
theorem Frt.setPost (h : Frt w g T k s post) (j o : Nat) (v : Value) (ho : s.length + j = o) : Frt (w.setCell ⟨g, o, none⟩ v) g T k s (post.set j v) := by
  subst ho
  unfold Frt at *
  rw [heap_setCell_same w g _ _ T v h]
  simp [nums_len]
end
section
variable {P : Program} {ops : Array Oper} {rest : List Oper} {o : Oper} {a : Act} {w : World} {Q : Exit → Act → World → Prop}
theorem wpList_load_frt {g T : Nat} {k : IntKind} {s : List Int} {post : List Value} {d : TypeDesc} (hgd : o.guard = none) (ty : TypeId) (x : Operand) (ho : o.op = .load ty x) (hx : a.eval x = .pointer (some ⟨g, 0, none⟩)) (h : Frt w g T k s post)
    (hu : P.underlying ty = some d) (hd : d.isRow = true) (n : Nat) (hi : (P.info? ty).map (·.size) = some n) (hn : s.length = n)
    (hk : wpList P ops Q rest (a.put o.dst (.agg (U k s))) w) : wpList P ops Q (o :: rest) a w :=
  wpList_load_mid hgd ty x ho g 0 hx (nums k s) d h.range hu hd (by rw [nums_len, hn]; exact hi) hk
theorem wpList_store_frt {g T : Nat} {k : IntKind} {s s' : List Int} {post : List Value} (hgd : o.guard = none) (ty : TypeId) (x y : Operand) (ho : o.op = .store ty x y) (hx : a.eval x = .pointer (some ⟨g, 0, none⟩)) (hy : a.eval y = .agg (U k s')) (h : Frt w g T k s post)
    (n : Nat) (hi : (P.info? ty).map (·.size) = some n) (hn : s.length = n) (hn' : s'.length = n)
    (hk : wpList P ops Q rest (a.put o.dst undef) (w.setCells g 0 (nums k s'))) : wpList P ops Q (o :: rest) a w :=
  wpList_store_mid hgd ty x y ho g 0 (U k s') hx hy (by rw [U_size, hn', ← hn]; exact h.there) (by rw [U_size, hn']; exact hi) (U_one k s') (by simpa [U, nums] using hk)
theorem exec_load_mid {oi : Oper} {ty : TypeId} {x : Operand} {g : Nat} {vs : List Value} {d : TypeDesc} (ho : oi.op = .load ty x) (hx : a.eval x = .pointer (some ⟨g, 0, none⟩)) (h : w.rangeAt g 0 vs) (hu : P.underlying ty = some d) (hd : d.isRow = true) (hi : (P.info? ty).map (·.size) = some vs.length) :
    (execOp a.eval oi).run P w = .ok (.value (.agg vs.toArray)) w := by
  unfold execOp
  simp only [ho, hx, Instr.loadAt, Instr.sureAddr, Sem.run_bind, Sem.run_pure, Result.andThen_ok, run_loadVar_mid w g 0 ty vs d h hu hd hi]
end

end Go.Proofs.YteidkdpfjponfaaDoor
