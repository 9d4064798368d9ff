/- The closures of sets.Ots and sets.Tree. -/
import Derived.Test.YtigedohalangbaaDoorS8A
import Derived.Deep.RegionHeld3
import Derived.StillTailTactics
namespace Go.Proofs.YtigedohalangbaaDoor
open Go.RowKit
set_option linter.unusedVariables false
set_option linter.unusedSimpArgs false

def sN (j : Nat) : Nat := if j % 2 = 0 then 32 else 24
def wN (r : Nat) : Nat := 2 ^ r
theorem sN_eq : ∀ j, j < 4 → gt sumsL (j * 2 + 1) = (sN j : Int) := by decide
theorem sK_eq : ∀ j, j < 4 → gt sumsL (j * 2) = ((j / 2 : Nat) : Int) := by decide
theorem wN_eq : ∀ r, r < 4 → gt widthsL r = (wN r : Int) := by decide
theorem sN_bd (j : Nat) : 1 ≤ sN j ∧ sN j ≤ 64 := by unfold sN; split <;> omega
theorem wN_W : ∀ r, r < 4 → wN r = 1 ∨ wN r = 2 ∨ wN r = 4 ∨ wN r = 8 := by decide
theorem uv_bd : ∀ j, j < 4 → ∀ r, r < 4 → uOf (sN j) (wN r) ≤ 1000 ∧ vOf (sN j) (wN r) ≤ 1000 := by decide +kernel
/-- The i-th set of one-time signatures. -/
def otsV (i : Nat) : Value := .agg #[.int .u32 ((i : Int) + 1), .int .i64 ((i / 8 : Nat) : Int), .int .i64 (sN (i / 4)), .int .i64 (wN (i % 4)), .int .i64 ((uOf (sN (i / 4)) (wN (i % 4)) + vOf (sN (i / 4)) (wN (i % 4)) : Nat) : Int), .int .i64 (16 - (wN (i % 4) : Int) * (vOf (sN (i / 4)) (wN (i % 4)) : Nat))]
theorem set6_other {w : World} {q b k : Nat} {v : Value} (h : b ≠ q) (hc : w.cell? ⟨b, k, none⟩ = some v) (x0 x1 x2 x3 x4 x5 : Value) : ((((((w.setCell ⟨q, 0, none⟩ x0).setCell ⟨q, 1, none⟩ x1).setCell ⟨q, 2, none⟩ x2).setCell ⟨q, 3, none⟩ x3).setCell ⟨q, 4, none⟩ x4).setCell ⟨q, 5, none⟩ x5).drew.cell? ⟨b, k, none⟩ = some v :=
  (((((((Kept.refl (b + 1) (fun g => g = q) w).set q 0 x0 (.inr rfl)).set q 1 x1 (.inr rfl)).set q 2 x2 (.inr rfl)).set q 3 x3 (.inr rfl)).set q 4 x4 (.inr rfl)).set q 5 x5 (.inr rfl)).drew.cell hc (Nat.lt_succ_self b) h
theorem set6_row {w : World} {q : Nat} {T : TypeId} {a0 a1 a2 a3 a4 a5 : Value} (h : w.heap[q]? = some (.cells #[a0, a1, a2, a3, a4, a5] T)) (x0 x1 x2 x3 x4 x5 : Value) :
    ((((((w.setCell ⟨q, 0, none⟩ x0).setCell ⟨q, 1, none⟩ x1).setCell ⟨q, 2, none⟩ x2).setCell ⟨q, 3, none⟩ x3).setCell ⟨q, 4, none⟩ x4).setCell ⟨q, 5, none⟩ x5).heap[q]? = some (.cells #[x0, x1, x2, x3, x4, x5] T) :=
  heap_setCell_same _ q 5 _ T x5 (heap_setCell_same _ q 4 _ T x4 (heap_setCell_same _ q 3 _ T x3 (heap_setCell_same _ q 2 _ T x2 (heap_setCell_same _ q 1 _ T x1 (heap_setCell_same w q 0 _ T x0 h)))))
theorem ots1_none (cb : Nat) (code : Int) (w : World) (hc : 0 ≤ code ∧ code < 4294967296) (hcell : w.cell? ⟨cb, 0, none⟩ = some (.int .u32 code)) (h : code < 1 ∨ 16 < code) :
    Calls Tryd.prog 22 #[.pointer (some ⟨cb, 0, none⟩)] w fun e w' => e = .panicked [unk] ∧ Below w.heap.size w w' := by
  have hlt : cb < w.heap.size := World.block_lt_of_cell? w _ hcell
  go_enter Tryd.func22, Tryd.ntmps22
  go_wp2_with fail
  refine (at_none code 1 4 _ hc (by decide) (.inl rfl) (by omega)).mono ?_
  rintro e w1 ⟨rfl, hb⟩
  exact ⟨rfl, rfl, ((Below.refl _ w).alloc (Nat.le_refl _) _).trans (hb.mono (by simp))⟩
set_option maxRecDepth 100000 in
set_option maxHeartbeats 1000000 in
theorem ots1_ok (cb i : Nat) (code : Int) (w : World) (B : Nat) (hT : STab w B) (hB : B ≤ w.heap.size) (hi : code = (i : Int) + 1) (h16 : i < 16) (hcell : w.cell? ⟨cb, 0, none⟩ = some (.int .u32 code)) :
    Calls Tryd.prog 22 #[.pointer (some ⟨cb, 0, none⟩)] w fun e w' => e = .returned (otsV i) ∧ Below w.heap.size w w' := by
  have hlt : cb < w.heap.size := World.block_lt_of_cell? w _ hcell
  have hc0 : 0 ≤ code ∧ code < 4294967296 := by omega
  obtain ⟨j, hj⟩ : ∃ j, i / 4 = j := ⟨_, rfl⟩
  obtain ⟨r, hr⟩ : ∃ r, i % 4 = r := ⟨_, rfl⟩
  obtain ⟨n, hn⟩ : ∃ n, sN j = n := ⟨_, rfl⟩
  obtain ⟨wd, hwd⟩ : ∃ wd, wN r = wd := ⟨_, rfl⟩
  obtain ⟨κ, hκ⟩ : ∃ κ, j / 2 = κ := ⟨_, rfl⟩
  obtain ⟨u, hu⟩ : ∃ u, uOf n wd = u := ⟨_, rfl⟩
  obtain ⟨v, hv⟩ : ∃ v, vOf n wd = v := ⟨_, rfl⟩
  have hj4 : j < 4 := by omega
  have hr4 : r < 4 := by omega
  have hr4I : (r : Int) < 4 := by omega
  have e1 := sN_eq j hj4
  have e2 := sK_eq j hj4
  have e3 := wN_eq r hr4
  have hnb := sN_bd j
  have hww := wN_W r hr4
  rw [hn] at e1 hnb
  rw [hκ] at e2
  rw [hwd] at e3 hww
  have hsh := fun w => shape_any n wd w hww hnb.1 hnb.2
  unfold ShapePost at hsh
  rw [hu, hv] at hsh
  have hub := uv_bd j hj4 r hr4
  rw [hn, hwd, hu, hv] at hub
  have hvb := hub.2
  have hub := hub.1
  have hV : otsV i = .agg #[.int .u32 code, .int .i64 ((i / 8 : Nat) : Int), .int .i64 n, .int .i64 wd, .int .i64 ((u + v : Nat) : Int), .int .i64 (16 - (wd : Int) * (v : Int))] := by
    unfold otsV; rw [hj, hr, hn, hwd, hu, hv, hi]
  rw [show i / 8 = j / 2 by omega, hκ] at hV
  rw [hV]
  have hat := at_4 code 1 i j r (w.alloc (.cells #[.int .u32 0, .int .i64 0, .int .i64 0, .int .i64 0, .int .i64 0, .int .i64 0] 24)) B (hT.below ((Below.refl _ w).alloc hB _)) hc0 (by decide) (by omega) h16 hj hr
  unfold AtPost at hat
  rw [e1, e2] at hat
  have HI := Lib.hid (show code = (i : Int) + 1 ∧ i / 4 = j ∧ i % 4 = r ∧ sN j = n ∧ wN r = wd ∧ uOf n wd = u ∧ vOf n wd = v from ⟨hi, hj, hr, hn, hwd, hu, hv⟩)
  clear hi hj hr hn hwd hu hv hV e1 e2 hκ
  go_enter Tryd.func22, Tryd.ntmps22
  go_wp2_with fail
  refine hat.mono ?_
  rintro e w1 ⟨rfl, hb⟩
  have hb1 : Below w.heap.size w w1 := ((Below.refl _ w).alloc (Nat.le_refl _) _).trans (hb.mono (by simp))
  have hcell1 := (World.cell?_of_block (hb1.block cb hlt)).trans hcell
  have hT1 := hT.below (hb1.mono hB)
  have hq0 : w1.heap[w.heap.size]? = some (.cells #[.int .u32 0, .int .i64 0, .int .i64 0, .int .i64 0, .int .i64 0, .int .i64 0] 24) := (hb.block w.heap.size (by simp)).trans (heap_alloc_new w _)
  go_wp2_with fail
  have hs1 := hb1.size
  have hsz1 : w.heap.size < w1.heap.size := by have := hb.size; simp at this; omega
  obtain ⟨w2, hw2⟩ : ∃ w2, w1.alloc (.cells #[.int .i64 (κ : Int), .int .i64 (n : Int)] 50) = w2 := ⟨_, rfl⟩
  have hb12 : Below w1.heap.size w1 w2 := by rw [← hw2]; exact (Below.refl _ w1).alloc (Nat.le_refl _) _
  have hs0 : w2.cell? ⟨w1.heap.size, 0, none⟩ = some (.int .i64 (κ : Int)) := by rw [← hw2, World.cell?_alloc_new]; rfl
  have hs1' : w2.cell? ⟨w1.heap.size, 1, none⟩ = some (.int .i64 (n : Int)) := by rw [← hw2, World.cell?_alloc_new]; rfl
  have hcell2 := (World.cell?_of_block (hb12.block cb (by omega))).trans hcell1
  have hT2 := hT1.below (hb12.mono (by omega))
  have hwc := hT2.wd r hr4
  rw [e3] at hwc
  have hq2 := (hb12.block w.heap.size (by omega)).trans hq0
  have hb02 := hb1.trans (hb12.mono hs1)
  have hs12 := hb12.size
  have hsz2 : w1.heap.size < w2.heap.size := World.block_lt_of_cell? w2 _ hs0
  have hszw : 0 < w2.heap.size := World.block_lt_of_cell? w2 _ hwc
  rw [hw2]
  clear hw2 hat hb hcell hcell1 hT1 hq0 hb12 hb1 hT
  go_region_held3 (fun w' => w'.cell? ⟨w1.heap.size, 1, none⟩ = some (.int .i64 (n : Int)) ∧ w'.cell? ⟨0, r, none⟩ = some (.int .i64 (wd : Int)) ∧ Below w2.heap.size w2 w')
    (first | (exact ⟨hs1', hwc, below_dr (Below.refl _ _)⟩) | (exact ⟨(World.cell?_of_block (hb3.block w1.heap.size hsz2)).trans hs1', (World.cell?_of_block (hb3.block 0 hszw)).trans hwc, (below_dr (Below.refl w2.heap.size w2)).trans hb3⟩) | go_keep)
    (first | (go_at_call 18; refine (hsh _).mono ?_; rintro e w3 ⟨rfl, hb3⟩))
  go_wp2_with fail
  have hb03 : Below w.heap.size w w3 := hb02.trans (((below_dr (Below.refl w2.heap.size w2)).trans hb3).mono (by omega))
  have f1 := (World.cell?_of_block (hb3.block cb (show cb < w2.heap.size by omega))).trans hcell2
  have f2 := (World.cell?_of_block (hb3.block w1.heap.size hsz2)).trans hs0
  have f3 := (World.cell?_of_block (hb3.block w1.heap.size hsz2)).trans hs1'
  have f4 := (World.cell?_of_block (hb3.block 0 hszw)).trans hwc
  have f5 := (hb3.block w.heap.size (show w.heap.size < w2.heap.size by omega)).trans hq2
  obtain ⟨q, hq⟩ : ∃ q, w.heap.size = q := ⟨_, rfl⟩
  obtain ⟨p, hp⟩ : ∃ p, w1.heap.size = p := ⟨_, rfl⟩
  rw [hq] at f5
  rw [hp] at f2 f3
  have n1 : cb ≠ q := by omega
  have n2 : p ≠ q := by omega
  have n3 : 0 ≠ q := by have := hT2.lt; omega
  have g0 : w3.cell? ⟨q, 0, none⟩ = some (.int .u32 0) := by simp [World.cell?, f5]
  have g1 : w3.cell? ⟨q, 1, none⟩ = some (.int .i64 0) := by simp [World.cell?, f5]
  have g2 : w3.cell? ⟨q, 2, none⟩ = some (.int .i64 0) := by simp [World.cell?, f5]
  have g3 : w3.cell? ⟨q, 3, none⟩ = some (.int .i64 0) := by simp [World.cell?, f5]
  have g4 : w3.cell? ⟨q, 4, none⟩ = some (.int .i64 0) := by simp [World.cell?, f5]
  have g5 : w3.cell? ⟨q, 5, none⟩ = some (.int .i64 0) := by simp [World.cell?, f5]
  have z : ∀ k, w3.frozen? ⟨q, k, none⟩ = false := fun k => by simp [World.frozen?, f5]
  have z0 := z 0
  have z1 := z 1
  have z2 := z 2
  have z3 := z 3
  have z4 := z 4
  have z5 := z 5
  have hbQ : Below q w w3 := by rw [← hq]; exact hb03
  have HPQ := Lib.hid (show w.heap.size = q ∧ w1.heap.size = p from ⟨hq, hp⟩)
  have hbs := hbQ.size
  have fd1 : w3.drew.cell? ⟨cb, 0, none⟩ = some (.int .u32 code) := f1
  have fd2 : w3.drew.cell? ⟨p, 0, none⟩ = some (.int .i64 (κ : Int)) := f2
  have fd3 : w3.drew.cell? ⟨p, 1, none⟩ = some (.int .i64 (n : Int)) := f3
  have fd4 : w3.drew.cell? ⟨0, r, none⟩ = some (.int .i64 (wd : Int)) := f4
  rw [hq, hp]
  clear hq2 hb3 z hb03 hb02 hs0 hs1' hcell2 hwc hT2 hq hp hs1 hsz1 hs12 hsz2 hszw
  go_region_held3 (fun w' => w'.cell? ⟨cb, 0, none⟩ = some (.int .u32 code) ∧ w'.cell? ⟨p, 0, none⟩ = some (.int .i64 (κ : Int)) ∧ w'.cell? ⟨p, 1, none⟩ = some (.int .i64 (n : Int)) ∧ w'.cell? ⟨0, r, none⟩ = some (.int .i64 (wd : Int)))
    (first | (with_reducible exact ⟨fd1, fd2, fd3, fd4⟩) | (with_reducible exact ⟨set6_other n1 f1 .., set6_other n2 f2 .., set6_other n2 f3 .., set6_other n3 f4 ..⟩)) (fail)
  have hrow := set6_row f5 (.int .u32 code) (.int .i64 (κ : Int)) (.int .i64 (n : Int)) (.int .i64 (wd : Int)) (.int .i64 (IntKind.i64.wrap ((u : Int) + (v : Int)))) (.int .i64 (16 - (wd : Int) * (v : Int)))
  have hkq := ((((((Kept.refl q (fun g => g = q) w3).set q 0 (.int .u32 code) (.inr rfl)).set q 1 (.int .i64 (κ : Int)) (.inr rfl)).set q 2 (.int .i64 (n : Int)) (.inr rfl)).set q 3 (.int .i64 (wd : Int)) (.inr rfl)).set q 4 (.int .i64 (IntKind.i64.wrap ((u : Int) + (v : Int)))) (.inr rfl)).set q 5 (.int .i64 (16 - (wd : Int) * (v : Int))) (.inr rfl)
  generalize (((((w3.setCell ⟨q, 0, none⟩ (.int .u32 code)).setCell ⟨q, 1, none⟩ (.int .i64 (κ : Int))).setCell ⟨q, 2, none⟩ (.int .i64 (n : Int))).setCell ⟨q, 3, none⟩ (.int .i64 (wd : Int))).setCell ⟨q, 4, none⟩ (.int .i64 (IntKind.i64.wrap ((u : Int) + (v : Int))))).setCell ⟨q, 5, none⟩ (.int .i64 (16 - (wd : Int) * (v : Int))) = w4 at hrow hkq ⊢
  have hsum : IntKind.i64.wrap ((u : Int) + (v : Int)) = ((u + v : Nat) : Int) := by rw [IntWalk.i64_in _ (by omega)]; omega
  rw [hsum] at hrow
  have c0 : w4.drew.cell? ⟨q, 0, none⟩ = some (.int .u32 code) := by show w4.cell? _ = _; simp [World.cell?, hrow]
  have c1 : w4.drew.cell? ⟨q, 1, none⟩ = some (.int .i64 (κ : Int)) := by show w4.cell? _ = _; simp [World.cell?, hrow]
  have c2 : w4.drew.cell? ⟨q, 2, none⟩ = some (.int .i64 (n : Int)) := by show w4.cell? _ = _; simp [World.cell?, hrow]
  have c3 : w4.drew.cell? ⟨q, 3, none⟩ = some (.int .i64 (wd : Int)) := by show w4.cell? _ = _; simp [World.cell?, hrow]
  have c4 : w4.drew.cell? ⟨q, 4, none⟩ = some (.int .i64 ((u + v : Nat) : Int)) := by show w4.cell? _ = _; simp [World.cell?, hrow]
  have c5 : w4.drew.cell? ⟨q, 5, none⟩ = some (.int .i64 (16 - (wd : Int) * (v : Int))) := by show w4.cell? _ = _; simp [World.cell?, hrow]
  have hbel : Below w.heap.size w w4.drew := by
    rw [HPQ.out.1]
    exact below_dr ((Kept.of_below (S := fun _ => False) hbQ).trans (S' := fun g => g = q) hkq (Nat.le_refl _) (fun g hg h => by omega)).below
  rename_i hHe
  clear hHe hkq hrow hsum f1 f2 f3 f4 f5 g0 g1 g2 g3 g4 g5 z0 z1 z2 z3 z4 z5 fd1 fd2 fd3 fd4
  go_wp2_with fail
  refine bodyPost_ret (v := .agg #[.int .u32 code, .int .i64 (κ : Int), .int .i64 (n : Int), .int .i64 (wd : Int), .int .i64 ((u + v : Nat) : Int), .int .i64 (16 - (wd : Int) * (v : Int))]) (by simp [results, Tryd.results22, go_sem, c0, c1, c2, c3, c4, c5]) rfl ⟨rfl, hbel⟩
end Go.Proofs.YtigedohalangbaaDoor
