/- Words for walks that are chains of calls which make memory. Conditions: none. -/
import Derived.Test.YtfaonieaagepjaaDoorZA
import Derived.Test.YtfaonieaagepjaaDoorLx2
namespace Go.Proofs.YtfaonieaagepjaaDoor
open Go.RowKit
set_option linter.unusedVariables false
set_option linter.unusedSimpArgs false
def OutP (w : World) (L : List Int) (n : Nat) (e : Ending) (w' : World) : Prop :=
  ∃ A c, e = .returned (.slice A n c) ∧ Frs w' w.heap.size A c L ∧ Below w.heap.size w w'
def NilP (w : World) (e : Ending) (w' : World) : Prop := e = .returned (.slice none 0 0) ∧ Below w.heap.size w w'
theorem Rd.bel {w w' : World} {k : IntKind} {A : Option Addr} {l : List Int} (h : Rd w w.heap.size k A l) (hb : Below w.heap.size w w') : Rd w' w'.heap.size k A l := (h.below hb).more hb.size
theorem Rd.al {w : World} {k : IntKind} {A : Option Addr} {l : List Int} (h : Rd w w.heap.size k A l) (x : Obj) : Rd (w.alloc x) (w.alloc x).heap.size k A l := (h.alloc (Nat.le_refl _) x).more (by simp)
theorem bnx {B : Nat} {w w1 w2 : World} (h : Below B w w1) (hb : Below w1.heap.size w1 w2) (hB : B ≤ w1.heap.size) : Below B w w2 := h.trans (hb.mono hB)
theorem bal {B : Nat} {w w1 : World} (h : Below B w w1) (hB : B ≤ w1.heap.size) (x : Obj) : Below B w (w1.alloc x) := h.alloc hB x
theorem bdr {B : Nat} {w w' : World} (h : Below B w w') (n : Nat) : Below B w (w'.drewN n) := ⟨h.os, h.tape, h.output, h.size, h.block⟩
theorem bdw {B : Nat} {w w' : World} (h : Below B w w') : Below B w w'.drew := ⟨h.os, h.tape, h.output, h.size, h.block⟩
theorem cell_bel {w w' : World} {b i : Nat} {v : Option Value} (h : w.cell? ⟨b, i, none⟩ = v) (hb : Below w.heap.size w w') (hlt : b < w.heap.size) : w'.cell? ⟨b, i, none⟩ = v := (World.cell?_of_block (hb.block b hlt)).trans h
theorem cell_al {w : World} {b i : Nat} {v : Option Value} (h : w.cell? ⟨b, i, none⟩ = v) (hlt : b < w.heap.size) (x : Obj) : (w.alloc x).cell? ⟨b, i, none⟩ = v := (World.cell?_of_block (Below.heap_alloc w x b hlt)).trans h
theorem cdr {w : World} {a : Addr} {v : Option Value} (h : w.cell? a = v) (n : Nat) : (w.drewN n).cell? a = v := h
theorem cdw {w : World} {a : Addr} {v : Option Value} (h : w.cell? a = v) : w.drew.cell? a = v := h
theorem al_le (w : World) (x : Obj) : w.heap.size ≤ (w.alloc x).heap.size := by simp
theorem ldr {w : World} {b : Nat} (h : b < w.heap.size) (n : Nat) : b < (w.drewN n).heap.size := h
theorem kbl {w w' w2 : World} {B : Nat} (h : Kept B (fun _ => False) w w') (hB : B ≤ w'.heap.size) (h2 : Below w'.heap.size w' w2) : Kept B (fun _ => False) w w2 := h.trans (S' := fun _ => False) (Kept.of_below h2) hB (fun _ _ h => h)
theorem Rd.marked6 (w : World) (T : Nat) (k : IntKind) (l : List Int) (fr : Nat × Nat) : Rd (w.alloc (.cells (U k l) T fr)) (w.heap.size + 1) k (some ⟨w.heap.size, 0, none⟩) l := fun hn =>
  ⟨_, rfl, Nat.lt_succ_self _, fun i hi => by rw [plus_head, World.cell?_alloc_mark w (U k l) T fr i, U_get k l i hi]⟩
theorem same_is (w : World) (A A' : Option Addr) (l : List Int) (n c c' B B' : Nat) (hA : Rd w B .u8 A l) (hB : Rd w B' .u8 A' l) (hn : l.length = n) (hm : n ≤ 9223372036854775807) :
    Calls Tryd.prog 13 #[.slice A n c, .slice A' n c'] w fun e w' => e = .returned (.bool true) ∧ ∃ q, w' = w.drewN q := by
  subst hn
  have h := same_any w A A' l l c c' B B' hA hB hm
  rwa [decide_eq_true rfl] at h
theorem Frs.take {w : World} {b c : Nat} {A : Option Addr} {l : List Int} (h : Frs w b A c l) (m : Nat) : Frs w b A c (l.take m) := by
  refine ⟨Nat.le_trans (by simp; omega) h.cap, h.max, h.nil, fun hn => ?_⟩
  obtain ⟨g, e, h1, h2, h3⟩ := h.at_ (by simp at hn; omega)
  refine ⟨g, e, h1, h2, fun i hi => ?_⟩
  rw [List.length_take] at hi
  rw [gt_take _ _ _ (by omega)]
  exact h3 i (by omega)
theorem b6 (l : List Int) (h : (l.all fun x => decide (0 ≤ x ∧ x < 256)) = true) : Bys l := fun x hx => by
  have := List.all_eq_true.1 h x hx
  simpa [B8] using this
/-- Rows in a row of rows that is made at once. -/
theorem Rd.pt {w : World} {B c n : Nat} {A : Option Addr} {l : List Int} (h : Rd w B .u8 A l) (hn : l.length = n) (hc : n ≤ c) : IsPart w B (.slice A n c) l := ⟨A, c, by rw [hn], h, by rw [hn]; exact hc⟩
theorem parts_of {w : World} {T : Nat} (vs : List Value) (ls : List (List Int)) (hl : vs.length = ls.length) (h : ∀ i, i < ls.length → IsPart w w.heap.size (vs.getD i undef) (gl ls i)) :
    Parts (w.alloc (.cells vs.toArray T)) (w.heap.size + 1) (some ⟨w.heap.size, 0, none⟩) ls := Parts.lit vs ls (Nat.le_refl _) hl h
end Go.Proofs.YtfaonieaagepjaaDoor
