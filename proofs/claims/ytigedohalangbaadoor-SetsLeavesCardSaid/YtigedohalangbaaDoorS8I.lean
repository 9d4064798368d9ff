/- What is awake of layer 8, walked. Conditions: the tables stand as they were laid. -/
import Derived.Test.YtigedohalangbaaDoorS8H
namespace Go.Proofs.YtigedohalangbaaDoor
open Go.RowKit
set_option linter.unusedVariables false
set_option linter.unusedSimpArgs false

theorem put6 (w : World) (T : TypeId) (x0 x1 x2 x3 x4 x5 : Int) : (w.alloc (.cells #[.int .u32 (x0), .int .i64 (x1), .int .i64 (x2), .int .i64 (x3), .int .i64 (x4), .int .i64 (x5)] T)).heap[w.heap.size]? = some (.cells #[.int .u32 x0, .int .i64 x1, .int .i64 x2, .int .i64 x3, .int .i64 x4, .int .i64 x5] T) ∧ Below w.heap.size w (w.alloc (.cells #[.int .u32 (x0), .int .i64 (x1), .int .i64 (x2), .int .i64 (x3), .int .i64 (x4), .int .i64 (x5)] T)) ∧ w.heap.size < (w.alloc (.cells #[.int .u32 (x0), .int .i64 (x1), .int .i64 (x2), .int .i64 (x3), .int .i64 (x4), .int .i64 (x5)] T)).heap.size :=
  ⟨heap_alloc_new w _, (Below.refl _ w).alloc (Nat.le_refl _) _, by simp⟩
theorem cells6 {w : World} {q : Nat} {T : TypeId} {x0 x1 x2 x3 x4 x5 : Value} (h : w.heap[q]? = some (.cells #[x0, x1, x2, x3, x4, x5] T)) : w.cell? ⟨q, 0, none⟩ = some x0 ∧ w.cell? ⟨q, 1, none⟩ = some x1 ∧ w.cell? ⟨q, 2, none⟩ = some x2 ∧ w.cell? ⟨q, 3, none⟩ = some x3 ∧ w.cell? ⟨q, 4, none⟩ = some x4 ∧ w.cell? ⟨q, 5, none⟩ = some x5 := by
  refine ⟨?_, ?_, ?_, ?_, ?_, ?_⟩ <;> simp [World.cell?, h]
theorem put4 (w : World) (T : TypeId) (x0 x1 x2 x3 : Int) : (w.alloc (.cells #[.int .u32 (x0), .int .i64 (x1), .int .i64 (x2), .int .i64 (x3)] T)).heap[w.heap.size]? = some (.cells #[.int .u32 x0, .int .i64 x1, .int .i64 x2, .int .i64 x3] T) ∧ Below w.heap.size w (w.alloc (.cells #[.int .u32 (x0), .int .i64 (x1), .int .i64 (x2), .int .i64 (x3)] T)) ∧ w.heap.size < (w.alloc (.cells #[.int .u32 (x0), .int .i64 (x1), .int .i64 (x2), .int .i64 (x3)] T)).heap.size :=
  ⟨heap_alloc_new w _, (Below.refl _ w).alloc (Nat.le_refl _) _, by simp⟩
theorem cells4 {w : World} {q : Nat} {T : TypeId} {x0 x1 x2 x3 : Value} (h : w.heap[q]? = some (.cells #[x0, x1, x2, x3] T)) : w.cell? ⟨q, 0, none⟩ = some x0 ∧ w.cell? ⟨q, 1, none⟩ = some x1 ∧ w.cell? ⟨q, 2, none⟩ = some x2 ∧ w.cell? ⟨q, 3, none⟩ = some x3 := by
  refine ⟨?_, ?_, ?_, ?_⟩ <;> simp [World.cell?, h]
set_option maxHeartbeats 4000000 in
theorem awake8_any (w : World) (B : Nat) (hT : STab w B) (hB : B ≤ w.heap.size) :
    Calls Tryd.prog 8 #[] w fun e w' => e = .returned (.bool true) ∧ Below w.heap.size w w' := by
  go_enter Tryd.func8, Tryd.ntmps8
  go_wp2_with fail
  have hc1 := ots_any 3 w B hT hB (by decide)
  unfold OPost at hc1
  rw [show o0 3 = 3 by decide, show o1 3 = 0 by decide, show o2 3 = 32 by decide, show o3 3 = 4 by decide, show o4 3 = 67 by decide, show o5 3 = 4 by decide, show oE 3 = 0 by decide] at hc1
  refine hc1.mono ?_
  rintro e v1 ⟨rfl, hb⟩
  clear hc1
  have hK2 : Below w.heap.size w v1 := hb
  clear hb
  go_wp2_with fail
  obtain ⟨r1, hb, hl⟩ := put6 v1 24 (3) (0) (32) (4) (67) (4)
  generalize (v1.alloc (.cells #[.int .u32 (3), .int .i64 (0), .int .i64 (32), .int .i64 (4), .int .i64 (67), .int .i64 (4)] 24)) = u1 at r1 hb hl ⊢
  have hK : Below w.heap.size w u1 := hK2.trans (hb.mono hK2.size)
  clear hK2
  obtain ⟨p1, hp1⟩ : ∃ p, v1.heap.size = p := ⟨_, rfl⟩
  rw [hp1] at r1 hl ⊢
  clear hb hp1
  have lr1 := (Array.getElem?_eq_some_iff.1 r1).1
  have hc2 := tree_any 5 u1 B (hT.below (hK.mono hB)) (Nat.le_trans hB hK.size) (by decide)
  unfold TPost at hc2
  rw [show t0 5 = 5 by decide, show t1 5 = 0 by decide, show t2 5 = 32 by decide, show t3 5 = 5 by decide, show tE 5 = 0 by decide] at hc2
  refine hc2.mono ?_
  rintro e v2 ⟨rfl, hb⟩
  clear hc2
  have hK2 : Below w.heap.size w v2 := hK.trans (hb.mono hK.size)
  clear hK
  have r1 := (hb.block _ (by omega)).trans r1
  have lr1 := (Array.getElem?_eq_some_iff.1 r1).1
  clear hb
  go_wp2_with fail
  obtain ⟨r2, hb, hl⟩ := put4 v2 26 (5) (0) (32) (5)
  generalize (v2.alloc (.cells #[.int .u32 (5), .int .i64 (0), .int .i64 (32), .int .i64 (5)] 26)) = u2 at r2 hb hl ⊢
  have hK : Below w.heap.size w u2 := hK2.trans (hb.mono hK2.size)
  clear hK2
  have r1 := (hb.block _ lr1).trans r1
  clear lr1
  obtain ⟨p2, hp2⟩ : ∃ p, v2.heap.size = p := ⟨_, rfl⟩
  rw [hp2] at r2 hl ⊢
  clear hb hp2
  have lr1 := (Array.getElem?_eq_some_iff.1 r1).1
  have lr2 := (Array.getElem?_eq_some_iff.1 r2).1
  have hc3 := tree_any 4026531842 u2 B (hT.below (hK.mono hB)) (Nat.le_trans hB hK.size) (by decide)
  unfold TPost at hc3
  rw [show t0 4026531842 = 4026531842 by decide, show t1 4026531842 = 0 by decide, show t2 4026531842 = 32 by decide, show t3 4026531842 = 2 by decide, show tE 4026531842 = 0 by decide] at hc3
  refine hc3.mono ?_
  rintro e v3 ⟨rfl, hb⟩
  clear hc3
  have hK2 : Below w.heap.size w v3 := hK.trans (hb.mono hK.size)
  clear hK
  have r1 := (hb.block _ (by omega)).trans r1
  have r2 := (hb.block _ (by omega)).trans r2
  have lr1 := (Array.getElem?_eq_some_iff.1 r1).1
  have lr2 := (Array.getElem?_eq_some_iff.1 r2).1
  clear hb
  go_wp2_with fail
  obtain ⟨r3, hb, hl⟩ := put4 v3 26 (4026531842) (0) (32) (2)
  generalize (v3.alloc (.cells #[.int .u32 (4026531842), .int .i64 (0), .int .i64 (32), .int .i64 (2)] 26)) = u3 at r3 hb hl ⊢
  have hK : Below w.heap.size w u3 := hK2.trans (hb.mono hK2.size)
  clear hK2
  have r1 := (hb.block _ lr1).trans r1
  have r2 := (hb.block _ lr2).trans r2
  clear lr1
  clear lr2
  obtain ⟨p3, hp3⟩ : ∃ p, v3.heap.size = p := ⟨_, rfl⟩
  rw [hp3] at r3 hl ⊢
  clear hb hp3
  have lr1 := (Array.getElem?_eq_some_iff.1 r1).1
  have lr2 := (Array.getElem?_eq_some_iff.1 r2).1
  have lr3 := (Array.getElem?_eq_some_iff.1 r3).1
  have hc4 := ots_any 17 u3 B (hT.below (hK.mono hB)) (Nat.le_trans hB hK.size) (by decide)
  unfold OPost at hc4
  rw [show o0 17 = 0 by decide, show o1 17 = 0 by decide, show o2 17 = 0 by decide, show o3 17 = 0 by decide, show o4 17 = 0 by decide, show o5 17 = 0 by decide, show oE 17 = 4 by decide] at hc4
  refine hc4.mono ?_
  rintro e v4 ⟨rfl, hb⟩
  clear hc4
  have hK2 : Below w.heap.size w v4 := hK.trans (hb.mono hK.size)
  clear hK
  have r1 := (hb.block _ (by omega)).trans r1
  have r2 := (hb.block _ (by omega)).trans r2
  have r3 := (hb.block _ (by omega)).trans r3
  have lr1 := (Array.getElem?_eq_some_iff.1 r1).1
  have lr2 := (Array.getElem?_eq_some_iff.1 r2).1
  have lr3 := (Array.getElem?_eq_some_iff.1 r3).1
  obtain ⟨a0, a1, a2, a3, a4, a5⟩ := cells6 r1
  obtain ⟨b0, b1, b2, b3⟩ := cells4 r2
  obtain ⟨d0, d1, d2, d3⟩ := cells4 r3
  clear hb
  go_wp2_with fail
  clear a0 a1 a2 a3 a4 a5 b0 b1 b2 b3 d0 d1 d2 d3
  obtain ⟨r4, hb, hl⟩ := put6 v4 24 (0) (0) (0) (0) (0) (0)
  generalize (v4.alloc (.cells #[.int .u32 (0), .int .i64 (0), .int .i64 (0), .int .i64 (0), .int .i64 (0), .int .i64 (0)] 24)) = u4 at r4 hb hl ⊢
  have hK : Below w.heap.size w u4 := hK2.trans (hb.mono hK2.size)
  clear hK2
  have r1 := (hb.block _ lr1).trans r1
  have r2 := (hb.block _ lr2).trans r2
  have r3 := (hb.block _ lr3).trans r3
  clear lr1
  clear lr2
  clear lr3
  obtain ⟨p4, hp4⟩ : ∃ p, v4.heap.size = p := ⟨_, rfl⟩
  rw [hp4] at r4 hl ⊢
  clear hb hp4
  have lr1 := (Array.getElem?_eq_some_iff.1 r1).1
  have lr2 := (Array.getElem?_eq_some_iff.1 r2).1
  have lr3 := (Array.getElem?_eq_some_iff.1 r3).1
  have lr4 := (Array.getElem?_eq_some_iff.1 r4).1
  refine (fit_any _ _ _ _ _ _ _ _ _ _ true _ (by decide)).mono ?_
  rintro e w5 ⟨rfl, hb⟩
  have hK5 := hK.trans (hb.mono hK.size)
  have r2 := (hb.block _ lr2).trans r2
  obtain ⟨b0, b1, b2, b3⟩ := cells4 r2
  clear hb hK r1 r3 r4 lr1 lr2 lr3 lr4 hl
  go_wp2_with fail
  refine (leaves_any _ _ _ _ 32 _ (by decide)).mono ?_
  rintro e w6 ⟨rfl, hb⟩
  have hK6 := hK5.trans (hb.mono hK5.size)
  clear hb hK5 r2 b0 b1 b2 b3
  go_wp2_with fail
  refine (otscodes_any w6).mono ?_
  rintro e w7 ⟨A, c, rfl, hl, hO, hb⟩
  have hK7 := hK6.trans (hb.mono hK6.size)
  clear hb hK6 hl hO
  go_wp2_with fail
  refine (treecodes_any w7).mono ?_
  rintro e w8 ⟨A2, c2, rfl, hl, hO, hb⟩
  have hK8 := hK7.trans (hb.mono hK7.size)
  clear hb hK7 hl hO
  go_wp2_with fail
  go_ret
  exact ⟨rfl, hK8⟩
end Go.Proofs.YtigedohalangbaaDoor
