/- caught, with its deferred closure; sets.Ots. -/
import Derived.Test.YtigedohalangbaaDoorS8C
import Derived.RegionTactic
import Derived.Tactics2
import Derived.Defers
import Derived.Recover
import Derived.Laws.Pointers
import Derived.WalkSmall
import Derived.Deep.RegionLaw
import Derived.Outline
namespace Go.Proofs.YtigedohalangbaaDoor
open Go.RowKit
set_option linter.unusedVariables false
set_option linter.unusedSimpArgs false

theorem cell_later8 {w : World} {p : Addr} {v : Value} (o : Obj) (h : w.cell? p = some v) : (w.alloc o).cell? p = some v :=
  (World.cell?_of_block (Below.heap_alloc w o p.block (World.block_lt_of_cell? w p h))).trans h
/-- What caught defers, where the set was found. -/
theorem caughtO_idle (p q : Addr) (w : World) :
    CallsD Tryd.prog 35 #[.pointer (some p), .pointer (some q)] .returning w fun e u' w' => e = .returned (.tuple #[]) ∧ u' = .returning ∧ w' = w := by
  refine callsD_of_wpS Tryd.func35 rfl fun c₀ cs hu => ?_
  apply wpS_seq
  apply wpS_region
  simp [wpOpsS, go_sem, recoverD, hu, Tryd.ntmps35, Exit.thenS]
  simp only [Array.replicate_succ, Array.replicate_zero, List.push_toArray, List.append_toArray, List.nil_append, List.cons_append, List.setIfInBounds_toArray, List.set_cons_zero, List.set_cons_succ]
  refine wpS_of_wp ?_
  go_wp2
  cases c₀
  simp_all [bodyPostS, results, Tryd.results35]
/-- .. where there was none. -/
theorem caughtO_panics (bp bq : Nat) (older : List PanicEntry) (w : World) (a0 a1 a2 a3 a4 a5 : Value) (v : Value) (hp : w.heap[bp]? = some (.cells #[a0, a1, a2, a3, a4, a5] 24)) (hq : w.cell? ⟨bq, 0, none⟩ = some v) (hqf : w.frozen? ⟨bq, 0, none⟩ = false) (hne : bp ≠ bq) :
    CallsD Tryd.prog 35 #[.pointer (some ⟨bp, 0, none⟩), .pointer (some ⟨bq, 0, none⟩)] (.panicking (unk :: older)) w fun e u' w' =>
      e = .returned (.tuple #[]) ∧ u' = .panicking ({ unk with recovered := true } :: older) ∧
        w'.heap[bp]? = some (.cells #[.int .u32 0, .int .i64 0, .int .i64 0, .int .i64 0, .int .i64 0, .int .i64 0] 24) ∧ w'.cell? ⟨bq, 0, none⟩ = some (.int .i64 4) ∧ Kept w.heap.size (fun g => g = bp ∨ g = bq) w w' := by
  have hpn : bp < w.heap.size := (Array.getElem?_eq_some_iff.1 hp).1
  have hqn : bq < w.heap.size := World.block_lt_of_cell? w _ hq
  have g0 : w.cell? ⟨bp, 0, none⟩ = some a0 := by simp [World.cell?, hp]
  have g1 : w.cell? ⟨bp, 1, none⟩ = some a1 := by simp [World.cell?, hp]
  have g2 : w.cell? ⟨bp, 2, none⟩ = some a2 := by simp [World.cell?, hp]
  have g3 : w.cell? ⟨bp, 3, none⟩ = some a3 := by simp [World.cell?, hp]
  have g4 : w.cell? ⟨bp, 4, none⟩ = some a4 := by simp [World.cell?, hp]
  have g5 : w.cell? ⟨bp, 5, none⟩ = some a5 := by simp [World.cell?, hp]
  have z : ∀ k, w.frozen? ⟨bp, k, none⟩ = false := fun k => by simp [World.frozen?, hp]
  have z0 := z 0
  have z1 := z 1
  have z2 := z 2
  have z3 := z 3
  have z4 := z 4
  have z5 := z 5
  clear z
  refine callsD_of_wpS Tryd.func35 rfl fun c₀ cs hu => ?_
  apply wpS_seq
  apply wpS_region
  simp [wpOpsS, go_sem, recoverD, hu, Tryd.ntmps35, Exit.thenS]
  simp only [Array.replicate_succ, Array.replicate_zero, List.push_toArray, List.append_toArray, List.nil_append, List.cons_append, List.setIfInBounds_toArray, List.set_cons_zero, List.set_cons_succ]
  have hta : ∀ w, (Instr.typeAssert (.iface 67 (.agg #[])) 20 67 true).run Tryd.prog w = .ok (.tuple #[.agg #[], .bool true]) w := fun w => by kernel_rfl
  refine wpS_of_wp ?_
  go_wp2
  have r1 := set6_row hp (.int .u32 0) (.int .i64 0) (.int .i64 0) (.int .i64 0) (.int .i64 0) (.int .i64 0)
  have k1 := ((((((Kept.refl w.heap.size (fun g => g = bp ∨ g = bq) w).set bp 0 (.int .u32 0) (.inr (.inl rfl))).set bp 1 (.int .i64 0) (.inr (.inl rfl))).set bp 2 (.int .i64 0) (.inr (.inl rfl))).set bp 3 (.int .i64 0) (.inr (.inl rfl))).set bp 4 (.int .i64 0) (.inr (.inl rfl))).set bp 5 (.int .i64 0) (.inr (.inl rfl))
  have q1 := (((((((Kept.refl (bq + 1) (fun g => g = bp) w).set bp 0 (.int .u32 0) (.inr rfl)).set bp 1 (.int .i64 0) (.inr rfl)).set bp 2 (.int .i64 0) (.inr rfl)).set bp 3 (.int .i64 0) (.inr rfl)).set bp 4 (.int .i64 0) (.inr rfl)).set bp 5 (.int .i64 0) (.inr rfl)).cell hq (Nat.lt_succ_self bq) (fun h => hne h.symm)
  generalize (((((w.setCell ⟨bp, 0, none⟩ (.int .u32 0)).setCell ⟨bp, 1, none⟩ (.int .i64 0)).setCell ⟨bp, 2, none⟩ (.int .i64 0)).setCell ⟨bp, 3, none⟩ (.int .i64 0)).setCell ⟨bp, 4, none⟩ (.int .i64 0)).setCell ⟨bp, 5, none⟩ (.int .i64 0) = w1 at r1 k1 q1 ⊢
  have hs1 := k1.size
  have r2 : (w1.setCell ⟨bq, 0, none⟩ (.int .i64 4)).heap[bp]? = _ := (heap_setCell_other w1 ⟨bq, 0, none⟩ bp (.int .i64 4) hne).trans r1
  have q2 : (w1.setCell ⟨bq, 0, none⟩ (.int .i64 4)).cell? ⟨bq, 0, none⟩ = some (.int .i64 4) := World.cell?_setCell_same' _ _ _ (by rw [q1]; rfl)
  have k2 := k1.set bq 0 (.int .i64 4) (.inr (.inr rfl))
  generalize w1.setCell ⟨bq, 0, none⟩ (.int .i64 4) = w2 at r2 q2 k2 ⊢
  have hs2 := k2.size
  have r3 := (Below.heap_alloc w2 (.cells #[] 67) bp (by omega)).trans r2
  have q3 := cell_later8 (.cells #[] 67) q2
  have k3 := k2.alloc (.cells #[] 67) hs2
  generalize w2.alloc (.cells #[] 67) = w3 at r3 q3 k3 ⊢
  have hs3 := k3.size
  have r4 := (Below.heap_alloc w3 (.cells #[.int .u32 0, .int .i64 0, .int .i64 0, .int .i64 0, .int .i64 0, .int .i64 0] 24) bp (by omega)).trans r3
  have q4 := cell_later8 (.cells #[.int .u32 0, .int .i64 0, .int .i64 0, .int .i64 0, .int .i64 0, .int .i64 0] 24) q3
  have k4 := k3.alloc (.cells #[.int .u32 0, .int .i64 0, .int .i64 0, .int .i64 0, .int .i64 0, .int .i64 0] 24) hs3
  generalize w3.alloc (.cells #[.int .u32 0, .int .i64 0, .int .i64 0, .int .i64 0, .int .i64 0, .int .i64 0] 24) = w4 at r4 q4 k4 ⊢
  clear r1 r2 r3 q1 q2 q3 k1 k2 k3 hs1 hs2 hs3 hta g0 g1 g2 g3 g4 g5 z0 z1 z2 z3 z4 z5
  cases c₀
  simp_all [bodyPostS, results, Tryd.results35, unk]
/-- The same for sets of trees. -/
theorem caughtT_idle (p q : Addr) (w : World) :
    CallsD Tryd.prog 37 #[.pointer (some p), .pointer (some q)] .returning w fun e u' w' => e = .returned (.tuple #[]) ∧ u' = .returning ∧ w' = w := by
  refine callsD_of_wpS Tryd.func37 rfl fun c₀ cs hu => ?_
  apply wpS_seq
  apply wpS_region
  simp [wpOpsS, go_sem, recoverD, hu, Tryd.ntmps37, Exit.thenS]
  simp only [Array.replicate_succ, Array.replicate_zero, List.push_toArray, List.append_toArray, List.nil_append, List.cons_append, List.setIfInBounds_toArray, List.set_cons_zero, List.set_cons_succ]
  refine wpS_of_wp ?_
  go_wp2
  cases c₀
  simp_all [bodyPostS, results, Tryd.results37]
/-- .. where there was none. -/
theorem caughtT_panics (bp bq : Nat) (older : List PanicEntry) (w : World) (a0 a1 a2 a3 : Value) (v : Value) (hp : w.heap[bp]? = some (.cells #[a0, a1, a2, a3] 26)) (hq : w.cell? ⟨bq, 0, none⟩ = some v) (hqf : w.frozen? ⟨bq, 0, none⟩ = false) (hne : bp ≠ bq) :
    CallsD Tryd.prog 37 #[.pointer (some ⟨bp, 0, none⟩), .pointer (some ⟨bq, 0, none⟩)] (.panicking (unk :: older)) w fun e u' w' =>
      e = .returned (.tuple #[]) ∧ u' = .panicking ({ unk with recovered := true } :: older) ∧
        w'.heap[bp]? = some (.cells #[.int .u32 0, .int .i64 0, .int .i64 0, .int .i64 0] 26) ∧ w'.cell? ⟨bq, 0, none⟩ = some (.int .i64 4) ∧ Kept w.heap.size (fun g => g = bp ∨ g = bq) w w' := by
  have hpn : bp < w.heap.size := (Array.getElem?_eq_some_iff.1 hp).1
  have hqn : bq < w.heap.size := World.block_lt_of_cell? w _ hq
  have g0 : w.cell? ⟨bp, 0, none⟩ = some a0 := by simp [World.cell?, hp]
  have g1 : w.cell? ⟨bp, 1, none⟩ = some a1 := by simp [World.cell?, hp]
  have g2 : w.cell? ⟨bp, 2, none⟩ = some a2 := by simp [World.cell?, hp]
  have g3 : w.cell? ⟨bp, 3, none⟩ = some a3 := by simp [World.cell?, hp]
  have z : ∀ k, w.frozen? ⟨bp, k, none⟩ = false := fun k => by simp [World.frozen?, hp]
  have z0 := z 0
  have z1 := z 1
  have z2 := z 2
  have z3 := z 3
  clear z
  refine callsD_of_wpS Tryd.func37 rfl fun c₀ cs hu => ?_
  apply wpS_seq
  apply wpS_region
  simp [wpOpsS, go_sem, recoverD, hu, Tryd.ntmps37, Exit.thenS]
  simp only [Array.replicate_succ, Array.replicate_zero, List.push_toArray, List.append_toArray, List.nil_append, List.cons_append, List.setIfInBounds_toArray, List.set_cons_zero, List.set_cons_succ]
  have hta : ∀ w, (Instr.typeAssert (.iface 67 (.agg #[])) 20 67 true).run Tryd.prog w = .ok (.tuple #[.agg #[], .bool true]) w := fun w => by kernel_rfl
  refine wpS_of_wp ?_
  go_wp2
  have r1 := set4_row hp (.int .u32 0) (.int .i64 0) (.int .i64 0) (.int .i64 0)
  have k1 := ((((Kept.refl w.heap.size (fun g => g = bp ∨ g = bq) w).set bp 0 (.int .u32 0) (.inr (.inl rfl))).set bp 1 (.int .i64 0) (.inr (.inl rfl))).set bp 2 (.int .i64 0) (.inr (.inl rfl))).set bp 3 (.int .i64 0) (.inr (.inl rfl))
  have q1 := (((((Kept.refl (bq + 1) (fun g => g = bp) w).set bp 0 (.int .u32 0) (.inr rfl)).set bp 1 (.int .i64 0) (.inr rfl)).set bp 2 (.int .i64 0) (.inr rfl)).set bp 3 (.int .i64 0) (.inr rfl)).cell hq (Nat.lt_succ_self bq) (fun h => hne h.symm)
  generalize (((w.setCell ⟨bp, 0, none⟩ (.int .u32 0)).setCell ⟨bp, 1, none⟩ (.int .i64 0)).setCell ⟨bp, 2, none⟩ (.int .i64 0)).setCell ⟨bp, 3, none⟩ (.int .i64 0) = w1 at r1 k1 q1 ⊢
  have hs1 := k1.size
  have r2 : (w1.setCell ⟨bq, 0, none⟩ (.int .i64 4)).heap[bp]? = _ := (heap_setCell_other w1 ⟨bq, 0, none⟩ bp (.int .i64 4) hne).trans r1
  have q2 : (w1.setCell ⟨bq, 0, none⟩ (.int .i64 4)).cell? ⟨bq, 0, none⟩ = some (.int .i64 4) := World.cell?_setCell_same' _ _ _ (by rw [q1]; rfl)
  have k2 := k1.set bq 0 (.int .i64 4) (.inr (.inr rfl))
  generalize w1.setCell ⟨bq, 0, none⟩ (.int .i64 4) = w2 at r2 q2 k2 ⊢
  have hs2 := k2.size
  have r3 := (Below.heap_alloc w2 (.cells #[] 67) bp (by omega)).trans r2
  have q3 := cell_later8 (.cells #[] 67) q2
  have k3 := k2.alloc (.cells #[] 67) hs2
  generalize w2.alloc (.cells #[] 67) = w3 at r3 q3 k3 ⊢
  have hs3 := k3.size
  have r4 := (Below.heap_alloc w3 (.cells #[.int .u32 0, .int .i64 0, .int .i64 0, .int .i64 0] 26) bp (by omega)).trans r3
  have q4 := cell_later8 (.cells #[.int .u32 0, .int .i64 0, .int .i64 0, .int .i64 0] 26) q3
  have k4 := k3.alloc (.cells #[.int .u32 0, .int .i64 0, .int .i64 0, .int .i64 0] 26) hs3
  generalize w3.alloc (.cells #[.int .u32 0, .int .i64 0, .int .i64 0, .int .i64 0] 26) = w4 at r4 q4 k4 ⊢
  clear r1 r2 r3 q1 q2 q3 k1 k2 k3 hs1 hs2 hs3 hta g0 g1 g2 g3 z0 z1 z2 z3
  cases c₀
  simp_all [bodyPostS, results, Tryd.results37, unk]
end Go.Proofs.YtigedohalangbaaDoor
