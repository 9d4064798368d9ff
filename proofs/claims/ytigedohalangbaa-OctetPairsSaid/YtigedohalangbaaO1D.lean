/- octet.part, and what Cut defers. Conditions: the slice reads as bytes. -/
import Derived.Test.YtigedohalangbaaShD
import Derived.Test.YtigedohalangbaaSl
import Derived.RegionTactic
import Derived.Tactics2
import Derived.Defers
import Derived.Recover
import Derived.Laws.Pointers
import Derived.WalkSmall
import Derived.Deep.RegionLaw
import Derived.Outline
namespace Go.Proofs.Ytigedohalangbaa
open Go.RowKit
set_option linter.unusedVariables false
set_option linter.unusedSimpArgs false

theorem cell_later {w : World} {a : Addr} {v : Value} (o : Obj) (h : w.cell? a = some v) : (w.alloc o).cell? a = some v :=
  (World.cell?_of_block (Below.heap_alloc w o a.block (World.block_lt_of_cell? w a h))).trans h
def tailA (A : Option Addr) (c n : Nat) : Option Addr := if c = n then A else A.map (·.add n)
def PartPost (w : World) (A : Option Addr) (L c n : Nat) (p : List Int) (e : Ending) (w' : World) : Prop :=
  ∃ A1 c1, e = .returned (.tuple #[.slice A1 n c1, .slice (tailA A c n) (L - n) (c - n)]) ∧ Own w' w.heap.size 5 .u8 (.slice A1 n c1) p ∧ Below w.heap.size w w'
theorem part_any (l : List Int) (A : Option Addr) (L c n : Nat) (w : World) (hr : Rd w w.heap.size .u8 A l) (hL : l.length = L) (hn : n ≤ L) (hc : L ≤ c) (hL2 : L ≤ 1000000) (hA : A = none → c = 0) :
    Calls Try.prog 42 #[.slice A L c, .int .i64 (n : Int)] w (PartPost w A L c n (l.take n)) := by
  have h1 : ¬ (n : Int) < 0 := by omega
  have h2 : ¬ (n : Int) > (L : Int) := by omega
  have htl : (l.take n).length = n := by rw [List.length_take]; omega
  have hC := clone_any (l.take n) A c w.heap.size w.drew (hr.take_ n) (Nat.le_refl _) (by rw [htl]; omega) hA
  rw [htl] at hC
  have hs1 : ∀ wx, (Instr.slice 22 (.slice A L c) none (some (.int .i64 (n : Int))) none).run Try.prog wx = .ok (.slice A n c) wx := fun wx =>
    run_slice_0v 22 5 Try.underlying22 (by kernel_rfl) A L c n (by omega) .i64 wx
  have hs2 : ∀ wx, (Instr.slice 22 (.slice A L c) (some (.int .i64 (n : Int))) none none).run Try.prog wx = .ok (.slice (tailA A c n) (L - n) (c - n)) wx := fun wx =>
    run_slice_a 22 5 Try.underlying22 (by kernel_rfl) A L c n hn .i64 wx
  clear htl hA
  go_enter Try.func42, Try.ntmps42
  go_wp2_with fail
  go_region_with ((with_reducible refine hC.mono ?_); rintro e w1 ⟨A1, c1, rfl, hO, hb⟩)
  all_goals
    clear hC hs1 hs2
    go_wp2_with fail
    go_ret2
    exact ⟨A1, c1, rfl, hO, ⟨hb.os, hb.tape, hb.output, hb.size, hb.block⟩⟩
theorem part_short (A : Option Addr) (L c : Nat) (n : Int) (w : World) (hn : (L : Int) < n) :
    Calls Try.prog 42 #[.slice A L c, .int .i64 n] w fun e w' => e = .panicked [{ v := .iface 65 (.agg #[.int .i64 2]), recovered := false }] ∧ w = w' := by
  have h1 : ¬ n < 0 := by omega
  have h2 : n > (L : Int) := hn
  go_enter Try.func42, Try.ntmps42
  go_wp2_with fail
  exact ⟨rfl, rfl, rfl⟩

/-- What Cut defers, where it returns. -/
theorem cutD_idle (p q : Addr) (w : World) :
    CallsD Try.prog 41 #[.pointer (some p), .pointer (some q)] .returning w fun e u' w' => e = .returned (.tuple #[]) ∧ u' = .returning ∧ w' = w := by
  refine callsD_of_wpS Try.func41 rfl fun c₀ cs hu => ?_
  apply wpS_seq
  apply wpS_region
  simp [wpOpsS, go_sem, recoverD, hu, Try.ntmps41, Exit.thenS]
  simp only [Array.replicate_succ, Array.replicate_zero, List.push_toArray, List.append_toArray, List.nil_append, List.cons_append, List.setIfInBounds_toArray, List.set_cons_zero, List.set_cons_succ]
  refine wpS_of_wp ?_
  go_wp2
  cases c₀
  simp_all [bodyPostS, results, Try.results41]
/-- .. where it panics with its own word. -/
theorem cutD_panics (bp bq : Nat) (x : Int) (older : List PanicEntry) (w : World) (u v : Value) (hp : w.cell? ⟨bp, 0, none⟩ = some u) (hpf : w.frozen? ⟨bp, 0, none⟩ = false) (hq : w.cell? ⟨bq, 0, none⟩ = some v) (hqf : w.frozen? ⟨bq, 0, none⟩ = false) (hne : bp ≠ bq) :
    CallsD Try.prog 41 #[.pointer (some ⟨bp, 0, none⟩), .pointer (some ⟨bq, 0, none⟩)] (.panicking ({ v := .iface 65 (.agg #[.int .i64 x]), recovered := false } :: older)) w fun e u' w' =>
      e = .returned (.tuple #[]) ∧ u' = .panicking ({ v := .iface 65 (.agg #[.int .i64 x]), recovered := true } :: older) ∧
        w'.cell? ⟨bp, 0, none⟩ = some (.slice none 0 0) ∧ w'.cell? ⟨bq, 0, none⟩ = some (.int .i64 x) ∧ Kept w.heap.size (fun g => g = bp ∨ g = bq) w w' := by
  have hpn : bp < w.heap.size := World.block_lt_of_cell? w _ hp
  have hqn : bq < w.heap.size := World.block_lt_of_cell? w _ hq
  refine callsD_of_wpS Try.func41 rfl fun c₀ cs hu => ?_
  apply wpS_seq
  apply wpS_region
  simp [wpOpsS, go_sem, recoverD, hu, Try.ntmps41, Exit.thenS]
  simp only [Array.replicate_succ, Array.replicate_zero, List.push_toArray, List.append_toArray, List.nil_append, List.cons_append, List.setIfInBounds_toArray, List.set_cons_zero, List.set_cons_succ]
  have hta : ∀ w, (Instr.typeAssert (.iface 65 (.agg #[.int .i64 x])) 20 65 true).run Try.prog w = .ok (.tuple #[.agg #[.int .i64 x], .bool true]) w := fun w => by kernel_rfl
  refine wpS_of_wp ?_
  go_wp2
  go_region
  have c1 : (w.setCell ⟨bp, 0, none⟩ (.slice none 0 0)).cell? ⟨bq, 0, none⟩ = some v := by rw [World.cell?_setCell_other _ _ _ _ (by first | (simp; done) | (simp; omega))]; exact hq
  have c2 : ((w.setCell ⟨bp, 0, none⟩ (.slice none 0 0)).setCell ⟨bq, 0, none⟩ (.int .i64 x)).cell? ⟨bq, 0, none⟩ = some (.int .i64 x) := World.cell?_setCell_same' _ _ _ (by rw [c1]; rfl)
  have c3 : ((w.setCell ⟨bp, 0, none⟩ (.slice none 0 0)).setCell ⟨bq, 0, none⟩ (.int .i64 x)).cell? ⟨bp, 0, none⟩ = some (.slice none 0 0) := by
    rw [World.cell?_setCell_other _ _ _ _ (by first | (simp; done) | (simp; omega))]
    exact World.cell?_setCell_same' _ _ _ (by rw [hp]; rfl)
  have c4 := cell_later (.cells #[.int .i64 x] 65) c2
  have c5 := cell_later (.cells #[.int .i64 x] 65) c3
  have hk : Kept w.heap.size (fun g => g = bp ∨ g = bq) w ((((w.setCell ⟨bp, 0, none⟩ (.slice none 0 0)).setCell ⟨bq, 0, none⟩ (.int .i64 x)).alloc (.cells #[.int .i64 x] 65)).drew) :=
    ((((Kept.refl _ _ w).set bp 0 _ (.inr (.inl rfl))).set bq 0 _ (.inr (.inr rfl))).alloc _ (by simp [World.setCell])).drew
  have c6 : ((((w.setCell ⟨bp, 0, none⟩ (.slice none 0 0)).setCell ⟨bq, 0, none⟩ (.int .i64 x)).alloc (.cells #[.int .i64 x] 65)).drew).cell? ⟨bq, 0, none⟩ = some (.int .i64 x) := c4
  have c7 : ((((w.setCell ⟨bp, 0, none⟩ (.slice none 0 0)).setCell ⟨bq, 0, none⟩ (.int .i64 x)).alloc (.cells #[.int .i64 x] 65)).drew).cell? ⟨bp, 0, none⟩ = some (.slice none 0 0) := c5
  generalize (((w.setCell ⟨bp, 0, none⟩ (.slice none 0 0)).setCell ⟨bq, 0, none⟩ (.int .i64 x)).alloc (.cells #[.int .i64 x] 65)).drew = W at c6 c7 hk ⊢
  clear c1 c2 c3 c4 c5 hta
  simp only [Exit.inBlock]
  show bodyPostS Try.prog Try.f41 _ _ _ _ _ _ _
  cases c₀
  simp_all [bodyPostS, results, Try.results41, Exit.inBlock]

end Go.Proofs.Ytigedohalangbaa
