/- The closure of sets.Tree. -/
import Derived.Test.YtigedohalangbaaDoorS8B
namespace Go.Proofs.YtigedohalangbaaDoor
open Go.RowKit
set_option linter.unusedVariables false
set_option linter.unusedSimpArgs false

theorem set4_other {w : World} {q b k : Nat} {v : Value} (h : b ≠ q) (hc : w.cell? ⟨b, k, none⟩ = some v) (x0 x1 x2 x3 : Value) : ((((w.setCell ⟨q, 0, none⟩ x0).setCell ⟨q, 1, none⟩ x1).setCell ⟨q, 2, none⟩ x2).setCell ⟨q, 3, none⟩ x3).drew.cell? ⟨b, k, none⟩ = some v :=
  (((((Kept.refl (b + 1) (fun g => g = q) w).set q 0 x0 (.inr rfl)).set q 1 x1 (.inr rfl)).set q 2 x2 (.inr rfl)).set q 3 x3 (.inr rfl)).drew.cell hc (Nat.lt_succ_self b) h
theorem set4_row {w : World} {q : Nat} {T : TypeId} {a0 a1 a2 a3 : Value} (h : w.heap[q]? = some (.cells #[a0, a1, a2, a3] T)) (x0 x1 x2 x3 : Value) :
    ((((w.setCell ⟨q, 0, none⟩ x0).setCell ⟨q, 1, none⟩ x1).setCell ⟨q, 2, none⟩ x2).setCell ⟨q, 3, none⟩ x3).heap[q]? = some (.cells #[x0, x1, x2, x3] T) :=
  heap_setCell_same _ q 3 _ T x3 (heap_setCell_same _ q 2 _ T x2 (heap_setCell_same _ q 1 _ T x1 (heap_setCell_same w q 0 _ T x0 h)))
/-- A set of trees: its code, the place of its sum, its height. -/
def treeM (code : Int) (j : Nat) (h : Int) : Value := .agg #[.int .u32 code, .int .i64 ((j / 2 : Nat) : Int), .int .i64 (sN j), .int .i64 h]
theorem tree1_none (cb : Nat) (code : Int) (w : World) (hc : 0 ≤ code ∧ code < 4294967296) (hcell : w.cell? ⟨cb, 0, none⟩ = some (.int .u32 code)) (h : code < 5 ∨ (24 < code ∧ code < 4026531841) ∨ 4026531856 < code) :
    Calls Tryd.prog 27 #[.pointer (some ⟨cb, 0, none⟩)] w fun e w' => e = .panicked [unk] ∧ Below w.heap.size w w' := by
  have hlt : cb < w.heap.size := World.block_lt_of_cell? w _ hcell
  by_cases hg : code ≥ 4026531841
  · go_enter Tryd.func27, Tryd.ntmps27
    go_wp2_with fail
    refine (at_none code 4026531841 4 _ hc (by decide) (.inl rfl) (by omega)).mono ?_
    rintro e w1 ⟨rfl, hb⟩
    exact ⟨rfl, rfl, ((Below.refl _ w).alloc (Nat.le_refl _) _).trans (hb.mono (by simp))⟩
  · go_enter Tryd.func27, Tryd.ntmps27
    go_wp2_with fail
    refine (at_none code 5 5 _ hc (by decide) (.inr rfl) (by omega)).mono ?_
    rintro e w1 ⟨rfl, hb⟩
    exact ⟨rfl, rfl, ((Below.refl _ w).alloc (Nat.le_refl _) _).trans (hb.mono (by simp))⟩
set_option maxRecDepth 100000 in
set_option maxHeartbeats 1000000 in
theorem tree1_own (cb i : Nat) (code : Int) (w : World) (B : Nat) (hT : STab w B) (hB : B ≤ w.heap.size) (hi : code = (i : Int) + 4026531841) (h16 : i < 16) (hcell : w.cell? ⟨cb, 0, none⟩ = some (.int .u32 code)) :
    Calls Tryd.prog 27 #[.pointer (some ⟨cb, 0, none⟩)] w fun e w' => e = .returned (treeM code (i / 4) (gt ownL (i % 4))) ∧ Below w.heap.size w w' := by
  have hlt : cb < w.heap.size := World.block_lt_of_cell? w _ hcell
  have hc0 : 0 ≤ code ∧ code < 4294967296 := by omega
  obtain ⟨j, hj⟩ : ∃ j, i / 4 = j := ⟨_, rfl⟩
  obtain ⟨r, hr⟩ : ∃ r, i % 4 = r := ⟨_, rfl⟩
  obtain ⟨n, hn⟩ : ∃ n, sN j = n := ⟨_, rfl⟩
  obtain ⟨wd, hwd⟩ : ∃ wd, gt ownL r = wd := ⟨_, rfl⟩
  have hj4 : j < 4 := by omega
  have hr4 : r < 4 := by omega
  have hr4I : (r : Int) < 4 := by omega
  have hge : code ≥ 4026531841 := by omega
  have e1 := sN_eq j hj4
  have e2 := sK_eq j hj4
  obtain ⟨κ, hκ⟩ : ∃ κ, j / 2 = κ := ⟨_, rfl⟩
  rw [hn] at e1
  rw [hκ] at e2
  unfold treeM
  rw [hj, hr, hn, hwd, hκ]
  have hat := at_4 code 4026531841 i j r (w.alloc (.cells #[.int .u32 0, .int .i64 0, .int .i64 0, .int .i64 0] 26)) B (hT.below ((Below.refl _ w).alloc hB _)) hc0 (by decide) (by omega) h16 hj hr
  unfold AtPost at hat
  rw [e1, e2] at hat
  have HI := Lib.hid (show code = (i : Int) + 4026531841 ∧ i / 4 = j ∧ i % 4 = r ∧ sN j = n ∧ gt ownL r = wd from ⟨hi, hj, hr, hn, hwd⟩)
  have HW := Lib.hid hwd
  clear hi hj hr hn hwd e1 e2 hκ
  go_enter Tryd.func27, Tryd.ntmps27
  go_wp2_with fail
  refine hat.mono ?_
  rintro e w1 ⟨rfl, hb⟩
  have hb1 : Below w.heap.size w w1 := ((Below.refl _ w).alloc (Nat.le_refl _) _).trans (hb.mono (by simp))
  have hcell1 := (World.cell?_of_block (hb1.block cb hlt)).trans hcell
  have hT1 := hT.below (hb1.mono hB)
  have hq0 : w1.heap[w.heap.size]? = some (.cells #[.int .u32 0, .int .i64 0, .int .i64 0, .int .i64 0] 26) := (hb.block w.heap.size (by simp)).trans (heap_alloc_new w _)
  go_wp2_with fail
  have hs1 := hb1.size
  have hsz1 : w.heap.size < w1.heap.size := by have := hb.size; simp at this; omega
  obtain ⟨w3, hw3⟩ : ∃ w3, w1.alloc (.cells #[.int .i64 (κ : Int), .int .i64 (n : Int)] 50) = w3 := ⟨_, rfl⟩
  have hb12 : Below w1.heap.size w1 w3 := by rw [← hw3]; exact (Below.refl _ w1).alloc (Nat.le_refl _) _
  have f2 : w3.cell? ⟨w1.heap.size, 0, none⟩ = some (.int .i64 (κ : Int)) := by rw [← hw3, World.cell?_alloc_new]; rfl
  have f3 : w3.cell? ⟨w1.heap.size, 1, none⟩ = some (.int .i64 (n : Int)) := by rw [← hw3, World.cell?_alloc_new]; rfl
  have f1 := (World.cell?_of_block (hb12.block cb (by omega))).trans hcell1
  have hT2 := hT1.below (hb12.mono (by omega))
  have f4 := hT2.o r hr4
  rw [HW.out] at f4
  have f5 := (hb12.block w.heap.size (by omega)).trans hq0
  have hb02 := hb1.trans (hb12.mono hs1)
  have hsz2 : w1.heap.size < w3.heap.size := World.block_lt_of_cell? w3 _ f2
  rw [hw3]
  clear hw3 hat hb hcell hcell1 hT1 hq0 hb12 hb1 hT
  obtain ⟨q, hq⟩ : ∃ q, w.heap.size = q := ⟨_, rfl⟩
  obtain ⟨p, hp⟩ : ∃ p, w1.heap.size = p := ⟨_, rfl⟩
  rw [hq] at f5
  rw [hp] at f2 f3
  have n1 : cb ≠ q := by omega
  have n2 : p ≠ q := by omega
  have n3 : 1 ≠ q := by have := hT2.lt; omega
  have g0 : w3.cell? ⟨q, 0, none⟩ = some (.int .u32 0) := by simp [World.cell?, f5]
  have g1 : w3.cell? ⟨q, 1, none⟩ = some (.int .i64 0) := by simp [World.cell?, f5]
  have g2 : w3.cell? ⟨q, 2, none⟩ = some (.int .i64 0) := by simp [World.cell?, f5]
  have g3 : w3.cell? ⟨q, 3, none⟩ = some (.int .i64 0) := by simp [World.cell?, f5]
  have z : ∀ k, w3.frozen? ⟨q, k, none⟩ = false := fun k => by simp [World.frozen?, f5]
  have z0 := z 0
  have z1 := z 1
  have z2 := z 2
  have z3 := z 3
  have hbQ : Below q w w3 := by rw [← hq]; exact hb02
  have HPQ := Lib.hid (show w.heap.size = q ∧ w1.heap.size = p from ⟨hq, hp⟩)
  have hbs := hbQ.size
  have fd1 : w3.drew.cell? ⟨cb, 0, none⟩ = some (.int .u32 code) := f1
  have fd2 : w3.drew.cell? ⟨p, 0, none⟩ = some (.int .i64 (κ : Int)) := f2
  have fd3 : w3.drew.cell? ⟨p, 1, none⟩ = some (.int .i64 (n : Int)) := f3
  have fd4 : w3.drew.cell? ⟨1, r, none⟩ = some (.int .i64 wd) := f4
  rw [hq, hp]
  clear z hb02 hT2 hq hp hs1 hsz1 hsz2
  go_region_held3 (fun w' => w'.cell? ⟨cb, 0, none⟩ = some (.int .u32 code) ∧ w'.cell? ⟨p, 0, none⟩ = some (.int .i64 (κ : Int)) ∧ w'.cell? ⟨p, 1, none⟩ = some (.int .i64 (n : Int)) ∧ w'.cell? ⟨1, r, none⟩ = some (.int .i64 wd))
    (first | (with_reducible exact ⟨fd1, fd2, fd3, fd4⟩) | (with_reducible exact ⟨set4_other n1 f1 .., set4_other n2 f2 .., set4_other n2 f3 .., set4_other n3 f4 ..⟩)) (fail)
  have hrow := set4_row f5 (.int .u32 code) (.int .i64 (κ : Int)) (.int .i64 (n : Int)) (.int .i64 wd)
  have hkq := ((((Kept.refl q (fun g => g = q) w3).set q 0 (.int .u32 code) (.inr rfl)).set q 1 (.int .i64 (κ : Int)) (.inr rfl)).set q 2 (.int .i64 (n : Int)) (.inr rfl)).set q 3 (.int .i64 wd) (.inr rfl)
  generalize (((w3.setCell ⟨q, 0, none⟩ (.int .u32 code)).setCell ⟨q, 1, none⟩ (.int .i64 (κ : Int))).setCell ⟨q, 2, none⟩ (.int .i64 (n : Int))).setCell ⟨q, 3, none⟩ (.int .i64 wd) = w4 at hrow hkq ⊢
  have c0 : w4.drew.cell? ⟨q, 0, none⟩ = some (.int .u32 code) := by show w4.cell? _ = _; simp [World.cell?, hrow]
  have c1 : w4.drew.cell? ⟨q, 1, none⟩ = some (.int .i64 (κ : Int)) := by show w4.cell? _ = _; simp [World.cell?, hrow]
  have c2 : w4.drew.cell? ⟨q, 2, none⟩ = some (.int .i64 (n : Int)) := by show w4.cell? _ = _; simp [World.cell?, hrow]
  have c3 : w4.drew.cell? ⟨q, 3, none⟩ = some (.int .i64 wd) := by show w4.cell? _ = _; simp [World.cell?, hrow]
  have hbel : Below w.heap.size w w4.drew := by
    rw [HPQ.out.1]
    exact below_dr ((Kept.of_below (S := fun _ => False) hbQ).trans (S' := fun g => g = q) hkq (Nat.le_refl _) (fun g hg h => by omega)).below
  rename_i hHe
  clear hHe hkq hrow f1 f2 f3 f4 f5 g0 g1 g2 g3 z0 z1 z2 z3 fd1 fd2 fd3 fd4
  go_wp2_with fail
  refine bodyPost_ret (v := .agg #[.int .u32 code, .int .i64 (κ : Int), .int .i64 (n : Int), .int .i64 wd]) (by simp [results, Tryd.results27, go_sem, c0, c1, c2, c3]) rfl ⟨rfl, hbel⟩
set_option maxRecDepth 100000 in
set_option maxHeartbeats 1000000 in
theorem tree1_std (cb i : Nat) (code : Int) (w : World) (B : Nat) (hT : STab w B) (hB : B ≤ w.heap.size) (hi : code = (i : Int) + 5) (h16 : i < 20) (hcell : w.cell? ⟨cb, 0, none⟩ = some (.int .u32 code)) :
    Calls Tryd.prog 27 #[.pointer (some ⟨cb, 0, none⟩)] w fun e w' => e = .returned (treeM code (i / 5) (gt heightsL (i % 5))) ∧ Below w.heap.size w w' := by
  have hlt : cb < w.heap.size := World.block_lt_of_cell? w _ hcell
  have hc0 : 0 ≤ code ∧ code < 4294967296 := by omega
  obtain ⟨j, hj⟩ : ∃ j, i / 5 = j := ⟨_, rfl⟩
  obtain ⟨r, hr⟩ : ∃ r, i % 5 = r := ⟨_, rfl⟩
  obtain ⟨n, hn⟩ : ∃ n, sN j = n := ⟨_, rfl⟩
  obtain ⟨wd, hwd⟩ : ∃ wd, gt heightsL r = wd := ⟨_, rfl⟩
  have hj4 : j < 4 := by omega
  have hr4 : r < 5 := by omega
  have hr4I : (r : Int) < 5 := by omega
  have hge : ¬ code ≥ 4026531841 := by omega
  have e1 := sN_eq j hj4
  have e2 := sK_eq j hj4
  obtain ⟨κ, hκ⟩ : ∃ κ, j / 2 = κ := ⟨_, rfl⟩
  rw [hn] at e1
  rw [hκ] at e2
  unfold treeM
  rw [hj, hr, hn, hwd, hκ]
  have hat := at_5 code 5 i j r (w.alloc (.cells #[.int .u32 0, .int .i64 0, .int .i64 0, .int .i64 0] 26)) B (hT.below ((Below.refl _ w).alloc hB _)) hc0 (by decide) (by omega) h16 hj hr
  unfold AtPost at hat
  rw [e1, e2] at hat
  have HI := Lib.hid (show code = (i : Int) + 5 ∧ i / 5 = j ∧ i % 5 = r ∧ sN j = n ∧ gt heightsL r = wd from ⟨hi, hj, hr, hn, hwd⟩)
  have HW := Lib.hid hwd
  clear hi hj hr hn hwd e1 e2 hκ
  go_enter Tryd.func27, Tryd.ntmps27
  go_wp2_with fail
  refine hat.mono ?_
  rintro e w1 ⟨rfl, hb⟩
  have hb1 : Below w.heap.size w w1 := ((Below.refl _ w).alloc (Nat.le_refl _) _).trans (hb.mono (by simp))
  have hcell1 := (World.cell?_of_block (hb1.block cb hlt)).trans hcell
  have hT1 := hT.below (hb1.mono hB)
  have hq0 : w1.heap[w.heap.size]? = some (.cells #[.int .u32 0, .int .i64 0, .int .i64 0, .int .i64 0] 26) := (hb.block w.heap.size (by simp)).trans (heap_alloc_new w _)
  go_wp2_with fail
  have hs1 := hb1.size
  have hsz1 : w.heap.size < w1.heap.size := by have := hb.size; simp at this; omega
  obtain ⟨w3, hw3⟩ : ∃ w3, w1.alloc (.cells #[.int .i64 (κ : Int), .int .i64 (n : Int)] 50) = w3 := ⟨_, rfl⟩
  have hb12 : Below w1.heap.size w1 w3 := by rw [← hw3]; exact (Below.refl _ w1).alloc (Nat.le_refl _) _
  have f2 : w3.cell? ⟨w1.heap.size, 0, none⟩ = some (.int .i64 (κ : Int)) := by rw [← hw3, World.cell?_alloc_new]; rfl
  have f3 : w3.cell? ⟨w1.heap.size, 1, none⟩ = some (.int .i64 (n : Int)) := by rw [← hw3, World.cell?_alloc_new]; rfl
  have f1 := (World.cell?_of_block (hb12.block cb (by omega))).trans hcell1
  have hT2 := hT1.below (hb12.mono (by omega))
  have f4 := hT2.h r hr4
  rw [HW.out] at f4
  have f5 := (hb12.block w.heap.size (by omega)).trans hq0
  have hb02 := hb1.trans (hb12.mono hs1)
  have hsz2 : w1.heap.size < w3.heap.size := World.block_lt_of_cell? w3 _ f2
  rw [hw3]
  clear hw3 hat hb hcell hcell1 hT1 hq0 hb12 hb1 hT
  obtain ⟨q, hq⟩ : ∃ q, w.heap.size = q := ⟨_, rfl⟩
  obtain ⟨p, hp⟩ : ∃ p, w1.heap.size = p := ⟨_, rfl⟩
  rw [hq] at f5
  rw [hp] at f2 f3
  have n1 : cb ≠ q := by omega
  have n2 : p ≠ q := by omega
  have n3 : 2 ≠ q := by have := hT2.lt; omega
  have g0 : w3.cell? ⟨q, 0, none⟩ = some (.int .u32 0) := by simp [World.cell?, f5]
  have g1 : w3.cell? ⟨q, 1, none⟩ = some (.int .i64 0) := by simp [World.cell?, f5]
  have g2 : w3.cell? ⟨q, 2, none⟩ = some (.int .i64 0) := by simp [World.cell?, f5]
  have g3 : w3.cell? ⟨q, 3, none⟩ = some (.int .i64 0) := by simp [World.cell?, f5]
  have z : ∀ k, w3.frozen? ⟨q, k, none⟩ = false := fun k => by simp [World.frozen?, f5]
  have z0 := z 0
  have z1 := z 1
  have z2 := z 2
  have z3 := z 3
  have hbQ : Below q w w3 := by rw [← hq]; exact hb02
  have HPQ := Lib.hid (show w.heap.size = q ∧ w1.heap.size = p from ⟨hq, hp⟩)
  have hbs := hbQ.size
  have fd1 : w3.drew.cell? ⟨cb, 0, none⟩ = some (.int .u32 code) := f1
  have fd2 : w3.drew.cell? ⟨p, 0, none⟩ = some (.int .i64 (κ : Int)) := f2
  have fd3 : w3.drew.cell? ⟨p, 1, none⟩ = some (.int .i64 (n : Int)) := f3
  have fd4 : w3.drew.cell? ⟨2, r, none⟩ = some (.int .i64 wd) := f4
  rw [hq, hp]
  clear z hb02 hT2 hq hp hs1 hsz1 hsz2
  go_region_held3 (fun w' => w'.cell? ⟨cb, 0, none⟩ = some (.int .u32 code) ∧ w'.cell? ⟨p, 0, none⟩ = some (.int .i64 (κ : Int)) ∧ w'.cell? ⟨p, 1, none⟩ = some (.int .i64 (n : Int)) ∧ w'.cell? ⟨2, r, none⟩ = some (.int .i64 wd))
    (first | (with_reducible exact ⟨fd1, fd2, fd3, fd4⟩) | (with_reducible exact ⟨set4_other n1 f1 .., set4_other n2 f2 .., set4_other n2 f3 .., set4_other n3 f4 ..⟩)) (fail)
  have hrow := set4_row f5 (.int .u32 code) (.int .i64 (κ : Int)) (.int .i64 (n : Int)) (.int .i64 wd)
  have hkq := ((((Kept.refl q (fun g => g = q) w3).set q 0 (.int .u32 code) (.inr rfl)).set q 1 (.int .i64 (κ : Int)) (.inr rfl)).set q 2 (.int .i64 (n : Int)) (.inr rfl)).set q 3 (.int .i64 wd) (.inr rfl)
  generalize (((w3.setCell ⟨q, 0, none⟩ (.int .u32 code)).setCell ⟨q, 1, none⟩ (.int .i64 (κ : Int))).setCell ⟨q, 2, none⟩ (.int .i64 (n : Int))).setCell ⟨q, 3, none⟩ (.int .i64 wd) = w4 at hrow hkq ⊢
  have c0 : w4.drew.cell? ⟨q, 0, none⟩ = some (.int .u32 code) := by show w4.cell? _ = _; simp [World.cell?, hrow]
  have c1 : w4.drew.cell? ⟨q, 1, none⟩ = some (.int .i64 (κ : Int)) := by show w4.cell? _ = _; simp [World.cell?, hrow]
  have c2 : w4.drew.cell? ⟨q, 2, none⟩ = some (.int .i64 (n : Int)) := by show w4.cell? _ = _; simp [World.cell?, hrow]
  have c3 : w4.drew.cell? ⟨q, 3, none⟩ = some (.int .i64 wd) := by show w4.cell? _ = _; simp [World.cell?, hrow]
  have hbel : Below w.heap.size w w4.drew := by
    rw [HPQ.out.1]
    exact below_dr ((Kept.of_below (S := fun _ => False) hbQ).trans (S' := fun g => g = q) hkq (Nat.le_refl _) (fun g hg h => by omega)).below
  rename_i hHe
  clear hHe hkq hrow f1 f2 f3 f4 f5 g0 g1 g2 g3 z0 z1 z2 z3 fd1 fd2 fd3 fd4
  go_wp2_with fail
  refine bodyPost_ret (v := .agg #[.int .u32 code, .int .i64 (κ : Int), .int .i64 (n : Int), .int .i64 wd]) (by simp [results, Tryd.results27, go_sem, c0, c1, c2, c3]) rfl ⟨rfl, hbel⟩
end Go.Proofs.YtigedohalangbaaDoor
