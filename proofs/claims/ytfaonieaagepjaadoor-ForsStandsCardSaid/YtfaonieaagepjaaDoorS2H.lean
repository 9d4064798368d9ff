/- A text that is summed, in plain Lean: the state behind its whole blocks, and what is left. Conditions: none. -/
import Derived.Test.YtfaonieaagepjaaDoorS2C
import Derived.Test.YtfaonieaagepjaaDoorZA
namespace Go.Proofs.YtfaonieaagepjaaDoor
open Go.RowKit
set_option linter.unusedVariables false
set_option linter.unusedSimpArgs false

def blocksN (l : List Int) : Nat → List Int
  | 0 => f2L
  | k + 1 => turn2 (blocksN l k) ((l.drop (64 * k)).take 64)
def hst (l : List Int) : List Int := blocksN l (l.length / 64)
def hrs (l : List Int) : List Int := l.drop (64 * (l.length / 64))
theorem blocksN_len (l : List Int) : ∀ k, (blocksN l k).length = 8
  | 0 => f2_len
  | k + 1 => by rw [blocksN, turn2_len _ (blocksN_len l k)]
theorem blocksN_W (l : List Int) : ∀ k, Ww (blocksN l k)
  | 0 => f2_W
  | k + 1 => by rw [blocksN]; exact turn2_W _ (blocksN_W l k)
theorem blocksN_app (l b : List Int) : ∀ k, 64 * k ≤ l.length → blocksN (l ++ b) k = blocksN l k
  | 0, _ => rfl
  | k + 1, h => by
    rw [blocksN, blocksN, blocksN_app l b k (by omega)]
    congr 1
    rw [List.drop_append_of_le_length (by omega), List.take_append_of_le_length (by rw [List.length_drop]; omega)]
theorem hrs_len (l : List Int) : (hrs l).length = l.length % 64 := by rw [hrs, List.length_drop]; omega
theorem hst_len (l : List Int) : (hst l).length = 8 := blocksN_len l _
theorem hst_W (l : List Int) : Ww (hst l) := blocksN_W l _
theorem hrs_app (l b : List Int) : hrs l ++ b = (l ++ b).drop (64 * (l.length / 64)) := by
  rw [hrs, List.drop_append_of_le_length (by omega)]
theorem hst_nil : hst [] = f2L := rfl
theorem hrs_nil : hrs [] = [] := rfl
/-- A hash that lies at block p: its state, its rest (in block a, or nil), its count. -/
def Hsh (w : World) (p : Nat) (a : Option Nat) (s m : List Int) (N : Int) : Prop :=
  ∃ v, v.ownBlock = a ∧ a ≠ some p ∧ Frt w p 103 .u32 s [v, .int .u64 N] ∧ Lie w 0 5 .u8 v m
section
variable {w w' : World} {p : Nat} {a : Option Nat} {s m : List Int} {N : Int}
theorem Hsh.lt (h : Hsh w p a s m N) : p < w.heap.size := by obtain ⟨v, _, _, h, _⟩ := h; exact h.lt
theorem Hsh.alt (h : Hsh w p a s m N) : ∀ g, a = some g → g < w.heap.size := fun g hg => by obtain ⟨v, h1, _, _, h⟩ := h; exact (h.lt g (h1.trans hg)).2
theorem Hsh.keep (h : Hsh w p a s m N) (h1 : w'.heap[p]? = w.heap[p]?) (h2 : ∀ g, a = some g → w'.heap[g]? = w.heap[g]?) : Hsh w' p a s m N := by
  obtain ⟨v, hv, hne, hF, hL⟩ := h
  refine ⟨v, hv, hne, ?_, hL.keep fun g hg => h2 g (hv.symm.trans hg)⟩
  unfold Frt at *; rw [h1]; exact hF
theorem Hsh.below {B : Nat} (h : Hsh w p a s m N) (hk : Below B w w') (hB : w.heap.size ≤ B) : Hsh w' p a s m N :=
  h.keep (hk.block p (by have := h.lt; omega)) fun g hg => hk.block g (by have := h.alt g hg; omega)
theorem Hsh.kept {B : Nat} {S : Nat → Prop} (h : Hsh w p a s m N) (hk : Kept B S w w') (hB : w.heap.size ≤ B) (hp : ¬ S p) (ha : ∀ g, a = some g → ¬ S g) : Hsh w' p a s m N :=
  h.keep (hk.block p (by have := h.lt; omega) hp) fun g hg => hk.block g (by have := h.alt g hg; omega) (ha g hg)
theorem Hsh.alloc (h : Hsh w p a s m N) (o : Obj) : Hsh (w.alloc o) p a s m N := h.keep (Below.heap_alloc w o p h.lt) fun g hg => Below.heap_alloc w o g (h.alt g hg)
theorem Hsh.drewN (h : Hsh w p a s m N) (n : Nat) : Hsh (w.drewN n) p a s m N := h.keep rfl fun _ _ => rfl
end
def S2Tb (w : World) : Prop := Tab w 1 .u32 k2L ∧ Tab w 0 .u32 f2L
theorem S2Tb.lt {w : World} (h : S2Tb w) : 1 < w.heap.size ∧ 0 < w.heap.size :=
  ⟨World.block_lt_of_cell? w _ (h.1 0 (by decide)), World.block_lt_of_cell? w _ (h.2 0 (by decide))⟩
theorem S2Tb.keep {w w' : World} (h : S2Tb w) (h1 : w'.heap[1]? = w.heap[1]?) (h2 : w'.heap[0]? = w.heap[0]?) : S2Tb w' :=
  ⟨fun i hi => (World.cell?_of_block h1).trans (h.1 i hi), fun i hi => (World.cell?_of_block h2).trans (h.2 i hi)⟩
theorem S2Tb.below {w w' : World} {B : Nat} (h : S2Tb w) (hk : Below B w w') (hB : w.heap.size ≤ B) : S2Tb w' :=
  h.keep (hk.block _ (by have := h.lt.1; omega)) (hk.block _ (by have := h.lt.2; omega))
theorem S2Tb.kept {w w' : World} {B : Nat} {S : Nat → Prop} (h : S2Tb w) (hk : Kept B S w w') (hB : w.heap.size ≤ B) (h1 : ¬ S 1) (h2 : ¬ S 0) : S2Tb w' :=
  h.keep (hk.block _ (by have := h.lt.1; omega) h1) (hk.block _ (by have := h.lt.2; omega) h2)
theorem Tab.rangew {w : World} {g : Nat} {k : IntKind} {l : List Int} (h : Tab w g k l) : w.rangeAt g 0 (nums k l) := fun j v hj => by
  have hl : j < l.length := by have := (List.getElem?_eq_some_iff.1 hj).1; rwa [nums_len] at this
  rw [Nat.zero_add, h j hl, ← hj, nums_get k l j hl]
theorem wpList_load_tabw {P : Program} {ops : Array Oper} {rest : List Oper} {o : Oper} {a : Act} {w : World} {Q : Exit → Act → World → Prop} {g : Nat} {k : IntKind} {s : List Int} {d : TypeDesc} (hgd : o.guard = none) (ty : TypeId) (x : Operand) (ho : o.op = .load ty x) (hx : a.eval x = .pointer (some ⟨g, 0, none⟩)) (h : Tab w g k s)
    (hu : P.underlying ty = some d) (hd : d.isRow = true) (n : Nat) (hi : (P.info? ty).map (·.size) = some n) (hn : s.length = n)
    (hk : wpList P ops Q rest (a.put o.dst (.agg (U k s))) w) : wpList P ops Q (o :: rest) a w :=
  wpList_load_mid hgd ty x ho g 0 hx (nums k s) d h.rangew hu hd (by rw [nums_len, hn]; exact hi) hk
theorem wpList_val2 {P : Program} {w : World} {ops : Array Oper} {rest : List Oper} {o : Oper} {a : Act} {Q : Exit → Act → World → Prop} (v : Value) (hgd : o.guard = none)
    (hrun : (execOp a.eval o).run P w = .ok (.value v) w) (h : wpList P ops Q rest (a.put o.dst v) w) : wpList P ops Q (o :: rest) a w := by
  refine wpList_plain hgd fun K hK => ?_
  unfold Oper.wp
  rw [hrun]
  exact hK _ _ h
set_option maxRecDepth 100000 in
theorem new2_any (w : World) (hT : S2Tb w) : Calls Tryd.prog 67 #[] w fun e w' => e = .returned (.pointer (some ⟨w.heap.size, 0, none⟩)) ∧ Hsh w' w.heap.size none (hst []) (hrs []) 0 ∧ Below w.heap.size w w' ∧ w'.heap.size = w.heap.size + 1 := by
  have hf := hT.2
  obtain ⟨cs, hcs⟩ : ∃ cs : Array Value, (nums .u32 f2L ++ [Value.slice none 0 0, Value.int .u64 0]).toArray = cs := ⟨_, rfl⟩
  have HC := Lib.hid hcs
  clear hcs
  go_enter Tryd.func67, Tryd.ntmps67
  go_wp2_with (first | (refine wpList_load_tabw (o := ⟨some 1, _, _, _, _, _⟩) rfl 96 _ rfl rfl hf Tryd.underlying96 rfl 8 inf_w8 f2_len ?_) | (refine wpList_val2 (o := ⟨some 2, _, _, _, _, _⟩) (.agg cs) rfl (by rw [← HC.out]; kernel_rfl) ?_))
  go_ret
  refine ⟨rfl, ⟨.slice none 0 0, rfl, by simp, ?_, Lie.nil _ _ _ _⟩, (Below.refl _ w).alloc (Nat.le_refl _) _, by simp⟩
  rw [hst_nil, Frt, HC.out]
  exact heap_alloc_new w _
end Go.Proofs.YtfaonieaagepjaaDoor
