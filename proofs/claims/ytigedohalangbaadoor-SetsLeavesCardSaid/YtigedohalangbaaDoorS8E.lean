/- caught, where a set was found, and where none; sets.Ots, sets.Tree. -/
import Derived.Test.YtigedohalangbaaDoorS8D
import Derived.Deep.LoopGhost
namespace Go.Proofs.YtigedohalangbaaDoor
open Go.RowKit
set_option linter.unusedVariables false
set_option linter.unusedSimpArgs false

theorem caughtO_ret (cb : Nat) (w : World) (x0 x1 x2 x3 x4 x5 : Int)
    (hF : ∀ w', Below w.heap.size w w' → Calls Tryd.prog 22 #[.pointer (some ⟨cb, 0, none⟩)] w' fun e w'' => e = .returned (.agg #[.int .u32 x0, .int .i64 x1, .int .i64 x2, .int .i64 x3, .int .i64 x4, .int .i64 x5]) ∧ Below w'.heap.size w' w'') :
    Calls Tryd.prog 21 #[.func (.func 22) #[] #[.pointer (some ⟨cb, 0, none⟩)]] w fun e w' =>
      e = .returned (.tuple #[.agg #[.int .u32 x0, .int .i64 x1, .int .i64 x2, .int .i64 x3, .int .i64 x4, .int .i64 x5], .int .i64 0]) ∧ Below w.heap.size w w' := by
  have hmf : ∀ (fn : Fn) (first cap : Array Value) (w : World), (Instr.makeFunc fn first cap).run Tryd.prog w = .ok (.func fn first cap) w := fun _ _ _ _ => rfl
  obtain ⟨q, hq⟩ : ∃ q, w.heap.size = q := ⟨_, rfl⟩
  obtain ⟨w2, hw2⟩ : ∃ w2, (w.alloc (.cells #[.int .u32 0, .int .i64 0, .int .i64 0, .int .i64 0, .int .i64 0, .int .i64 0] 24)).alloc (.cells #[.int .i64 0] 28) = w2 := ⟨_, rfl⟩
  have bO : w2.heap[q]? = some (.cells #[.int .u32 0, .int .i64 0, .int .i64 0, .int .i64 0, .int .i64 0, .int .i64 0] 24) := by
    rw [← hw2, ← hq]; exact (Below.heap_alloc _ _ _ (by simp)).trans (heap_alloc_new w _)
  have bC : w2.heap[q + 1]? = some (.cells #[.int .i64 0] 28) := by
    rw [← hw2, ← hq]
    have := heap_alloc_new (w.alloc (.cells #[.int .u32 0, .int .i64 0, .int .i64 0, .int .i64 0, .int .i64 0, .int .i64 0] 24)) (.cells #[.int .i64 0] 28)
    rwa [World.size_alloc] at this
  have hk2 : Below q w w2 := by rw [← hw2, ← hq]; exact ((Below.refl _ w).alloc (Nat.le_refl _) _).alloc (by simp) _
  have hsz : w2.heap.size = q + 2 := by rw [← hw2, ← hq]; simp
  have hF2 := hF w2 (by rw [hq]; exact hk2)
  clear hF
  rw [hq]
  have HQ := Lib.hid hq
  go_enter_defers Tryd.func21, Tryd.ntmps21
  go_wp2_with fail
  refine hF2.mono ?_
  rintro e w3 ⟨rfl, hb3⟩
  have bO3 := (hb3.block q (by omega)).trans bO
  have bC3 := (hb3.block (q + 1) (by omega)).trans bC
  have hk3 : Below q w w3 := hk2.trans (hb3.mono (by omega))
  have hs3 : q + 2 ≤ w3.heap.size := by have := hb3.size; omega
  clear hF2 hb3 bO bC hk2 hsz hw2
  have g0 : w3.cell? ⟨q, 0, none⟩ = some (.int .u32 0) := by simp [World.cell?, bO3]
  have g1 : w3.cell? ⟨q, 1, none⟩ = some (.int .i64 0) := by simp [World.cell?, bO3]
  have g2 : w3.cell? ⟨q, 2, none⟩ = some (.int .i64 0) := by simp [World.cell?, bO3]
  have g3 : w3.cell? ⟨q, 3, none⟩ = some (.int .i64 0) := by simp [World.cell?, bO3]
  have g4 : w3.cell? ⟨q, 4, none⟩ = some (.int .i64 0) := by simp [World.cell?, bO3]
  have g5 : w3.cell? ⟨q, 5, none⟩ = some (.int .i64 0) := by simp [World.cell?, bO3]
  have gc : w3.cell? ⟨q + 1, 0, none⟩ = some (.int .i64 0) := by simp [World.cell?, bC3]
  have z : ∀ k, w3.frozen? ⟨q, k, none⟩ = false := fun k => by simp [World.frozen?, bO3]
  have zc : w3.frozen? ⟨q + 1, 0, none⟩ = false := by simp [World.frozen?, bC3]
  have z0 := z 0
  have z1 := z 1
  have z2 := z 2
  have z3 := z 3
  have z4 := z 4
  have z5 := z 5
  clear z
  go_wp2_with fail
  have r1 := set6_row bO3 (.int .u32 x0) (.int .i64 x1) (.int .i64 x2) (.int .i64 x3) (.int .i64 x4) (.int .i64 x5)
  have hC1 : ((((((w3.setCell ⟨q, 0, none⟩ (.int .u32 x0)).setCell ⟨q, 1, none⟩ (.int .i64 x1)).setCell ⟨q, 2, none⟩ (.int .i64 x2)).setCell ⟨q, 3, none⟩ (.int .i64 x3)).setCell ⟨q, 4, none⟩ (.int .i64 x4)).setCell ⟨q, 5, none⟩ (.int .i64 x5)).heap[q + 1]? = some (.cells #[.int .i64 0] 28) := by
    rw [heap_setCell_other _ _ (q + 1) _ (by show q + 1 ≠ q; omega)]
    rw [heap_setCell_other _ _ (q + 1) _ (by show q + 1 ≠ q; omega)]
    rw [heap_setCell_other _ _ (q + 1) _ (by show q + 1 ≠ q; omega)]
    rw [heap_setCell_other _ _ (q + 1) _ (by show q + 1 ≠ q; omega)]
    rw [heap_setCell_other _ _ (q + 1) _ (by show q + 1 ≠ q; omega)]
    rw [heap_setCell_other _ _ (q + 1) _ (by show q + 1 ≠ q; omega)]
    exact bC3
  have hk4 := ((((((Kept.refl q (fun g => g = q ∨ g = q + 1) w3).set q 0 (.int .u32 x0) (.inr (.inl rfl))).set q 1 (.int .i64 x1) (.inr (.inl rfl))).set q 2 (.int .i64 x2) (.inr (.inl rfl))).set q 3 (.int .i64 x3) (.inr (.inl rfl))).set q 4 (.int .i64 x4) (.inr (.inl rfl))).set q 5 (.int .i64 x5) (.inr (.inl rfl))
  generalize ((((((w3.setCell ⟨q, 0, none⟩ (.int .u32 x0)).setCell ⟨q, 1, none⟩ (.int .i64 x1)).setCell ⟨q, 2, none⟩ (.int .i64 x2)).setCell ⟨q, 3, none⟩ (.int .i64 x3)).setCell ⟨q, 4, none⟩ (.int .i64 x4)).setCell ⟨q, 5, none⟩ (.int .i64 x5)) = w4 at r1 hC1 hk4 ⊢
  have r2 : (w4.setCell ⟨q + 1, 0, none⟩ (.int .i64 0)).heap[q]? = some (.cells #[.int .u32 x0, .int .i64 x1, .int .i64 x2, .int .i64 x3, .int .i64 x4, .int .i64 x5] 24) := by rw [heap_setCell_other w4 _ q _ (by show q ≠ q + 1; omega)]; exact r1
  have hk5 := hk4.set (q + 1) 0 (.int .i64 0) (.inr (.inr rfl))
  have c5 : (w4.setCell ⟨q + 1, 0, none⟩ (.int .i64 0)).cell? ⟨q + 1, 0, none⟩ = some (.int .i64 0) := World.cell?_setCell_same' _ _ _ (by simp [World.cell?, hC1])
  generalize w4.setCell ⟨q + 1, 0, none⟩ (.int .i64 0) = w5 at r2 hk5 c5 ⊢
  have hbel : Below q w w5 := ((Kept.of_below (S := fun _ => False) hk3).trans hk5 (Nat.le_refl _) (fun k hk h => by omega)).below
  clear hk4 hk5 r1 hC1 hk3 gc zc g0 z0 g1 z1 g2 z2 g3 z3 g4 z4 g5 z5
  have cx0 : w5.cell? ⟨q, 0, none⟩ = some (.int .u32 x0) := by simp [World.cell?, r2]
  have cx1 : w5.cell? ⟨q, 1, none⟩ = some (.int .i64 x1) := by simp [World.cell?, r2]
  have cx2 : w5.cell? ⟨q, 2, none⟩ = some (.int .i64 x2) := by simp [World.cell?, r2]
  have cx3 : w5.cell? ⟨q, 3, none⟩ = some (.int .i64 x3) := by simp [World.cell?, r2]
  have cx4 : w5.cell? ⟨q, 4, none⟩ = some (.int .i64 x4) := by simp [World.cell?, r2]
  have cx5 : w5.cell? ⟨q, 5, none⟩ = some (.int .i64 x5) := by simp [World.cell?, r2]
  refine leaves_cons (f := 35) (args := #[.pointer (some ⟨q, 0, none⟩), .pointer (some ⟨q + 1, 0, none⟩)]) (by simp) (by simp [go_sem]) ?_
  refine (caughtO_idle ⟨q, 0, none⟩ ⟨q + 1, 0, none⟩ _).mono ?_
  rintro e u' w'' ⟨rfl, rfl, rfl⟩
  simp [Leaves, settle, results, Tryd.results21, go_sem, c5, cx0, cx1, cx2, cx3, cx4, cx5]
  first | exact hbel | exact ⟨rfl, hbel⟩
theorem caughtO_no (cb : Nat) (w : World)
    (hF : ∀ w', Below w.heap.size w w' → Calls Tryd.prog 22 #[.pointer (some ⟨cb, 0, none⟩)] w' fun e w'' => e = .panicked [unk] ∧ Below w'.heap.size w' w'') :
    Calls Tryd.prog 21 #[.func (.func 22) #[] #[.pointer (some ⟨cb, 0, none⟩)]] w fun e w' =>
      e = .returned (.tuple #[.agg #[.int .u32 0, .int .i64 0, .int .i64 0, .int .i64 0, .int .i64 0, .int .i64 0], .int .i64 4]) ∧ Below w.heap.size w w' := by
  have hmf : ∀ (fn : Fn) (first cap : Array Value) (w : World), (Instr.makeFunc fn first cap).run Tryd.prog w = .ok (.func fn first cap) w := fun _ _ _ _ => rfl
  obtain ⟨q, hq⟩ : ∃ q, w.heap.size = q := ⟨_, rfl⟩
  obtain ⟨w2, hw2⟩ : ∃ w2, (w.alloc (.cells #[.int .u32 0, .int .i64 0, .int .i64 0, .int .i64 0, .int .i64 0, .int .i64 0] 24)).alloc (.cells #[.int .i64 0] 28) = w2 := ⟨_, rfl⟩
  have bO : w2.heap[q]? = some (.cells #[.int .u32 0, .int .i64 0, .int .i64 0, .int .i64 0, .int .i64 0, .int .i64 0] 24) := by
    rw [← hw2, ← hq]; exact (Below.heap_alloc _ _ _ (by simp)).trans (heap_alloc_new w _)
  have bC : w2.heap[q + 1]? = some (.cells #[.int .i64 0] 28) := by
    rw [← hw2, ← hq]
    have := heap_alloc_new (w.alloc (.cells #[.int .u32 0, .int .i64 0, .int .i64 0, .int .i64 0, .int .i64 0, .int .i64 0] 24)) (.cells #[.int .i64 0] 28)
    rwa [World.size_alloc] at this
  have hk2 : Below q w w2 := by rw [← hw2, ← hq]; exact ((Below.refl _ w).alloc (Nat.le_refl _) _).alloc (by simp) _
  have hsz : w2.heap.size = q + 2 := by rw [← hw2, ← hq]; simp
  have hF2 := hF w2 (by rw [hq]; exact hk2)
  clear hF
  rw [hq]
  have HQ := Lib.hid hq
  go_enter_defers Tryd.func21, Tryd.ntmps21
  go_wp2_with fail
  refine hF2.mono ?_
  rintro e w3 ⟨rfl, hb3⟩
  have bO3 := (hb3.block q (by omega)).trans bO
  have bC3 := (hb3.block (q + 1) (by omega)).trans bC
  have hk3 : Below q w w3 := hk2.trans (hb3.mono (by omega))
  have hs3 : q + 2 ≤ w3.heap.size := by have := hb3.size; omega
  clear hF2 hb3 bO bC hk2 hsz hw2
  have gc : w3.cell? ⟨q + 1, 0, none⟩ = some (.int .i64 0) := by simp [World.cell?, bC3]
  have zc : w3.frozen? ⟨q + 1, 0, none⟩ = false := by simp [World.frozen?, bC3]
  refine leaves_cons (f := 35) (args := #[.pointer (some ⟨q, 0, none⟩), .pointer (some ⟨q + 1, 0, none⟩)]) (by simp) (by simp [go_sem]) ?_
  refine (caughtO_panics q (q + 1) [] w3 _ _ _ _ _ _ _ bO3 gc zc (by omega)).mono ?_
  rintro e u' w5 ⟨rfl, rfl, r2, c5, hk5⟩
  have hbel : Below q w w5 := ((Kept.of_below (S := fun _ => False) hk3).trans hk5 (by omega) (fun k hk h => by omega)).below
  have cx0 : w5.cell? ⟨q, 0, none⟩ = some (.int .u32 0) := by simp [World.cell?, r2]
  have cx1 : w5.cell? ⟨q, 1, none⟩ = some (.int .i64 0) := by simp [World.cell?, r2]
  have cx2 : w5.cell? ⟨q, 2, none⟩ = some (.int .i64 0) := by simp [World.cell?, r2]
  have cx3 : w5.cell? ⟨q, 3, none⟩ = some (.int .i64 0) := by simp [World.cell?, r2]
  have cx4 : w5.cell? ⟨q, 4, none⟩ = some (.int .i64 0) := by simp [World.cell?, r2]
  have cx5 : w5.cell? ⟨q, 5, none⟩ = some (.int .i64 0) := by simp [World.cell?, r2]
  simp [Leaves, settle, results, Tryd.results21, go_sem, c5, cx0, cx1, cx2, cx3, cx4, cx5]
  first | exact hbel | exact ⟨rfl, hbel⟩
theorem caughtT_ret (cb : Nat) (w : World) (x0 x1 x2 x3 : Int)
    (hF : ∀ w', Below w.heap.size w w' → Calls Tryd.prog 27 #[.pointer (some ⟨cb, 0, none⟩)] w' fun e w'' => e = .returned (.agg #[.int .u32 x0, .int .i64 x1, .int .i64 x2, .int .i64 x3]) ∧ Below w'.heap.size w' w'') :
    Calls Tryd.prog 26 #[.func (.func 27) #[] #[.pointer (some ⟨cb, 0, none⟩)]] w fun e w' =>
      e = .returned (.tuple #[.agg #[.int .u32 x0, .int .i64 x1, .int .i64 x2, .int .i64 x3], .int .i64 0]) ∧ Below w.heap.size w w' := by
  have hmf : ∀ (fn : Fn) (first cap : Array Value) (w : World), (Instr.makeFunc fn first cap).run Tryd.prog w = .ok (.func fn first cap) w := fun _ _ _ _ => rfl
  obtain ⟨q, hq⟩ : ∃ q, w.heap.size = q := ⟨_, rfl⟩
  obtain ⟨w2, hw2⟩ : ∃ w2, (w.alloc (.cells #[.int .u32 0, .int .i64 0, .int .i64 0, .int .i64 0] 26)).alloc (.cells #[.int .i64 0] 28) = w2 := ⟨_, rfl⟩
  have bO : w2.heap[q]? = some (.cells #[.int .u32 0, .int .i64 0, .int .i64 0, .int .i64 0] 26) := by
    rw [← hw2, ← hq]; exact (Below.heap_alloc _ _ _ (by simp)).trans (heap_alloc_new w _)
  have bC : w2.heap[q + 1]? = some (.cells #[.int .i64 0] 28) := by
    rw [← hw2, ← hq]
    have := heap_alloc_new (w.alloc (.cells #[.int .u32 0, .int .i64 0, .int .i64 0, .int .i64 0] 26)) (.cells #[.int .i64 0] 28)
    rwa [World.size_alloc] at this
  have hk2 : Below q w w2 := by rw [← hw2, ← hq]; exact ((Below.refl _ w).alloc (Nat.le_refl _) _).alloc (by simp) _
  have hsz : w2.heap.size = q + 2 := by rw [← hw2, ← hq]; simp
  have hF2 := hF w2 (by rw [hq]; exact hk2)
  clear hF
  rw [hq]
  have HQ := Lib.hid hq
  go_enter_defers Tryd.func26, Tryd.ntmps26
  go_wp2_with fail
  refine hF2.mono ?_
  rintro e w3 ⟨rfl, hb3⟩
  have bO3 := (hb3.block q (by omega)).trans bO
  have bC3 := (hb3.block (q + 1) (by omega)).trans bC
  have hk3 : Below q w w3 := hk2.trans (hb3.mono (by omega))
  have hs3 : q + 2 ≤ w3.heap.size := by have := hb3.size; omega
  clear hF2 hb3 bO bC hk2 hsz hw2
  have g0 : w3.cell? ⟨q, 0, none⟩ = some (.int .u32 0) := by simp [World.cell?, bO3]
  have g1 : w3.cell? ⟨q, 1, none⟩ = some (.int .i64 0) := by simp [World.cell?, bO3]
  have g2 : w3.cell? ⟨q, 2, none⟩ = some (.int .i64 0) := by simp [World.cell?, bO3]
  have g3 : w3.cell? ⟨q, 3, none⟩ = some (.int .i64 0) := by simp [World.cell?, bO3]
  have gc : w3.cell? ⟨q + 1, 0, none⟩ = some (.int .i64 0) := by simp [World.cell?, bC3]
  have z : ∀ k, w3.frozen? ⟨q, k, none⟩ = false := fun k => by simp [World.frozen?, bO3]
  have zc : w3.frozen? ⟨q + 1, 0, none⟩ = false := by simp [World.frozen?, bC3]
  have z0 := z 0
  have z1 := z 1
  have z2 := z 2
  have z3 := z 3
  clear z
  go_wp2_with fail
  have r1 := set4_row bO3 (.int .u32 x0) (.int .i64 x1) (.int .i64 x2) (.int .i64 x3)
  have hC1 : ((((w3.setCell ⟨q, 0, none⟩ (.int .u32 x0)).setCell ⟨q, 1, none⟩ (.int .i64 x1)).setCell ⟨q, 2, none⟩ (.int .i64 x2)).setCell ⟨q, 3, none⟩ (.int .i64 x3)).heap[q + 1]? = some (.cells #[.int .i64 0] 28) := by
    rw [heap_setCell_other _ _ (q + 1) _ (by show q + 1 ≠ q; omega)]
    rw [heap_setCell_other _ _ (q + 1) _ (by show q + 1 ≠ q; omega)]
    rw [heap_setCell_other _ _ (q + 1) _ (by show q + 1 ≠ q; omega)]
    rw [heap_setCell_other _ _ (q + 1) _ (by show q + 1 ≠ q; omega)]
    exact bC3
  have hk4 := ((((Kept.refl q (fun g => g = q ∨ g = q + 1) w3).set q 0 (.int .u32 x0) (.inr (.inl rfl))).set q 1 (.int .i64 x1) (.inr (.inl rfl))).set q 2 (.int .i64 x2) (.inr (.inl rfl))).set q 3 (.int .i64 x3) (.inr (.inl rfl))
  generalize ((((w3.setCell ⟨q, 0, none⟩ (.int .u32 x0)).setCell ⟨q, 1, none⟩ (.int .i64 x1)).setCell ⟨q, 2, none⟩ (.int .i64 x2)).setCell ⟨q, 3, none⟩ (.int .i64 x3)) = w4 at r1 hC1 hk4 ⊢
  have r2 : (w4.setCell ⟨q + 1, 0, none⟩ (.int .i64 0)).heap[q]? = some (.cells #[.int .u32 x0, .int .i64 x1, .int .i64 x2, .int .i64 x3] 26) := by rw [heap_setCell_other w4 _ q _ (by show q ≠ q + 1; omega)]; exact r1
  have hk5 := hk4.set (q + 1) 0 (.int .i64 0) (.inr (.inr rfl))
  have c5 : (w4.setCell ⟨q + 1, 0, none⟩ (.int .i64 0)).cell? ⟨q + 1, 0, none⟩ = some (.int .i64 0) := World.cell?_setCell_same' _ _ _ (by simp [World.cell?, hC1])
  generalize w4.setCell ⟨q + 1, 0, none⟩ (.int .i64 0) = w5 at r2 hk5 c5 ⊢
  have hbel : Below q w w5 := ((Kept.of_below (S := fun _ => False) hk3).trans hk5 (Nat.le_refl _) (fun k hk h => by omega)).below
  clear hk4 hk5 r1 hC1 hk3 gc zc g0 z0 g1 z1 g2 z2 g3 z3
  have cx0 : w5.cell? ⟨q, 0, none⟩ = some (.int .u32 x0) := by simp [World.cell?, r2]
  have cx1 : w5.cell? ⟨q, 1, none⟩ = some (.int .i64 x1) := by simp [World.cell?, r2]
  have cx2 : w5.cell? ⟨q, 2, none⟩ = some (.int .i64 x2) := by simp [World.cell?, r2]
  have cx3 : w5.cell? ⟨q, 3, none⟩ = some (.int .i64 x3) := by simp [World.cell?, r2]
  refine leaves_cons (f := 37) (args := #[.pointer (some ⟨q, 0, none⟩), .pointer (some ⟨q + 1, 0, none⟩)]) (by simp) (by simp [go_sem]) ?_
  refine (caughtT_idle ⟨q, 0, none⟩ ⟨q + 1, 0, none⟩ _).mono ?_
  rintro e u' w'' ⟨rfl, rfl, rfl⟩
  simp [Leaves, settle, results, Tryd.results26, go_sem, c5, cx0, cx1, cx2, cx3]
  first | exact hbel | exact ⟨rfl, hbel⟩
theorem caughtT_no (cb : Nat) (w : World)
    (hF : ∀ w', Below w.heap.size w w' → Calls Tryd.prog 27 #[.pointer (some ⟨cb, 0, none⟩)] w' fun e w'' => e = .panicked [unk] ∧ Below w'.heap.size w' w'') :
    Calls Tryd.prog 26 #[.func (.func 27) #[] #[.pointer (some ⟨cb, 0, none⟩)]] w fun e w' =>
      e = .returned (.tuple #[.agg #[.int .u32 0, .int .i64 0, .int .i64 0, .int .i64 0], .int .i64 4]) ∧ Below w.heap.size w w' := by
  have hmf : ∀ (fn : Fn) (first cap : Array Value) (w : World), (Instr.makeFunc fn first cap).run Tryd.prog w = .ok (.func fn first cap) w := fun _ _ _ _ => rfl
  obtain ⟨q, hq⟩ : ∃ q, w.heap.size = q := ⟨_, rfl⟩
  obtain ⟨w2, hw2⟩ : ∃ w2, (w.alloc (.cells #[.int .u32 0, .int .i64 0, .int .i64 0, .int .i64 0] 26)).alloc (.cells #[.int .i64 0] 28) = w2 := ⟨_, rfl⟩
  have bO : w2.heap[q]? = some (.cells #[.int .u32 0, .int .i64 0, .int .i64 0, .int .i64 0] 26) := by
    rw [← hw2, ← hq]; exact (Below.heap_alloc _ _ _ (by simp)).trans (heap_alloc_new w _)
  have bC : w2.heap[q + 1]? = some (.cells #[.int .i64 0] 28) := by
    rw [← hw2, ← hq]
    have := heap_alloc_new (w.alloc (.cells #[.int .u32 0, .int .i64 0, .int .i64 0, .int .i64 0] 26)) (.cells #[.int .i64 0] 28)
    rwa [World.size_alloc] at this
  have hk2 : Below q w w2 := by rw [← hw2, ← hq]; exact ((Below.refl _ w).alloc (Nat.le_refl _) _).alloc (by simp) _
  have hsz : w2.heap.size = q + 2 := by rw [← hw2, ← hq]; simp
  have hF2 := hF w2 (by rw [hq]; exact hk2)
  clear hF
  rw [hq]
  have HQ := Lib.hid hq
  go_enter_defers Tryd.func26, Tryd.ntmps26
  go_wp2_with fail
  refine hF2.mono ?_
  rintro e w3 ⟨rfl, hb3⟩
  have bO3 := (hb3.block q (by omega)).trans bO
  have bC3 := (hb3.block (q + 1) (by omega)).trans bC
  have hk3 : Below q w w3 := hk2.trans (hb3.mono (by omega))
  have hs3 : q + 2 ≤ w3.heap.size := by have := hb3.size; omega
  clear hF2 hb3 bO bC hk2 hsz hw2
  have gc : w3.cell? ⟨q + 1, 0, none⟩ = some (.int .i64 0) := by simp [World.cell?, bC3]
  have zc : w3.frozen? ⟨q + 1, 0, none⟩ = false := by simp [World.frozen?, bC3]
  refine leaves_cons (f := 37) (args := #[.pointer (some ⟨q, 0, none⟩), .pointer (some ⟨q + 1, 0, none⟩)]) (by simp) (by simp [go_sem]) ?_
  refine (caughtT_panics q (q + 1) [] w3 _ _ _ _ _ bO3 gc zc (by omega)).mono ?_
  rintro e u' w5 ⟨rfl, rfl, r2, c5, hk5⟩
  have hbel : Below q w w5 := ((Kept.of_below (S := fun _ => False) hk3).trans hk5 (by omega) (fun k hk h => by omega)).below
  have cx0 : w5.cell? ⟨q, 0, none⟩ = some (.int .u32 0) := by simp [World.cell?, r2]
  have cx1 : w5.cell? ⟨q, 1, none⟩ = some (.int .i64 0) := by simp [World.cell?, r2]
  have cx2 : w5.cell? ⟨q, 2, none⟩ = some (.int .i64 0) := by simp [World.cell?, r2]
  have cx3 : w5.cell? ⟨q, 3, none⟩ = some (.int .i64 0) := by simp [World.cell?, r2]
  simp [Leaves, settle, results, Tryd.results26, go_sem, c5, cx0, cx1, cx2, cx3]
  first | exact hbel | exact ⟨rfl, hbel⟩
end Go.Proofs.YtigedohalangbaaDoor
