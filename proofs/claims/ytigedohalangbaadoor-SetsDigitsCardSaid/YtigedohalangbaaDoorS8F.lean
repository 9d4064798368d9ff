/- sets.Ots and sets.Tree: of every code. Conditions: the tables stand as they were laid. -/
import Derived.Test.YtigedohalangbaaDoorS8E
namespace Go.Proofs.YtigedohalangbaaDoor
open Go.RowKit
set_option linter.unusedVariables false
set_option linter.unusedSimpArgs false

def oIn (c : Int) : Prop := 1 ≤ c ∧ c ≤ 16
instance (c : Int) : Decidable (oIn c) := by unfold oIn; infer_instance
def oI (c : Int) : Nat := (c - 1).toNat
def o0 (c : Int) : Int := if oIn c then c else 0
def o1 (c : Int) : Int := if oIn c then ((oI c / 8 : Nat) : Int) else 0
def o2 (c : Int) : Int := if oIn c then (sN (oI c / 4) : Int) else 0
def o3 (c : Int) : Int := if oIn c then (wN (oI c % 4) : Int) else 0
def o4 (c : Int) : Int := if oIn c then ((uOf (sN (oI c / 4)) (wN (oI c % 4)) + vOf (sN (oI c / 4)) (wN (oI c % 4)) : Nat) : Int) else 0
def o5 (c : Int) : Int := if oIn c then (16 - (wN (oI c % 4) : Int) * (vOf (sN (oI c / 4)) (wN (oI c % 4)) : Nat)) else 0
def oE (c : Int) : Int := if oIn c then 0 else 4
theorem otsV_eq (c : Int) (h : oIn c) : otsV (oI c) = .agg #[.int .u32 (o0 c), .int .i64 (o1 c), .int .i64 (o2 c), .int .i64 (o3 c), .int .i64 (o4 c), .int .i64 (o5 c)] := by
  unfold otsV o0 o1 o2 o3 o4 o5
  simp only [if_pos h]
  have : ((oI c : Nat) : Int) + 1 = c := by unfold oI; unfold oIn at h; omega
  rw [this]
def OPost (c : Int) (w : World) (e : Ending) (w' : World) : Prop := e = .returned (.tuple #[.agg #[.int .u32 (o0 c), .int .i64 (o1 c), .int .i64 (o2 c), .int .i64 (o3 c), .int .i64 (o4 c), .int .i64 (o5 c)], .int .i64 (oE c)]) ∧ Below w.heap.size w w'
theorem caughtO_any (cb : Nat) (code : Int) (w : World) (B : Nat) (hT : STab w B) (hB : B ≤ w.heap.size) (hc : 0 ≤ code ∧ code < 4294967296) (hcell : w.cell? ⟨cb, 0, none⟩ = some (.int .u32 code)) :
    Calls Tryd.prog 21 #[.func (.func 22) #[] #[.pointer (some ⟨cb, 0, none⟩)]] w (OPost code w) := by
  have hlt : cb < w.heap.size := World.block_lt_of_cell? w _ hcell
  by_cases h : oIn code
  · have h2 : code = ((oI code : Nat) : Int) + 1 := by unfold oI; unfold oIn at h; omega
    have h3 : oI code < 16 := by unfold oIn at h; omega
    have := caughtO_ret cb w (o0 code) (o1 code) (o2 code) (o3 code) (o4 code) (o5 code) (fun w' hb => by
      rw [← otsV_eq code h]
      exact ots1_ok cb (oI code) code w' B (hT.below (hb.mono hB)) (Nat.le_trans hB hb.size) h2 h3 ((World.cell?_of_block (hb.block cb hlt)).trans hcell))
    refine this.mono fun e w' ⟨he, hb⟩ => ⟨?_, hb⟩
    rw [he]; unfold oE; rw [if_pos h]
  · have := caughtO_no cb w (fun w' hb => ots1_none cb code w' hc ((World.cell?_of_block (hb.block cb hlt)).trans hcell) (by unfold oIn at h; omega))
    refine this.mono fun e w' ⟨he, hb⟩ => ⟨?_, hb⟩
    rw [he]; unfold oE o0 o1 o2 o3 o4 o5; simp only [if_neg h]
theorem ots_any (code : Int) (w : World) (B : Nat) (hT : STab w B) (hB : B ≤ w.heap.size) (hc : 0 ≤ code ∧ code < 4294967296) :
    Calls Tryd.prog 9 #[.int .u32 code] w (OPost code w) := by
  have hmf : ∀ (fn : Fn) (first cap : Array Value) (w : World), (Instr.makeFunc fn first cap).run Tryd.prog w = .ok (.func fn first cap) w := fun _ _ _ _ => rfl
  obtain ⟨q, hq⟩ : ∃ q, w.heap.size = q := ⟨_, rfl⟩
  obtain ⟨w2, hw2⟩ : ∃ w2, (w.alloc (.cells #[.int .u32 code] 22)).alloc (.cells #[.int .u32 0, .int .i64 0, .int .i64 0, .int .i64 0, .int .i64 0, .int .i64 0] 24) = w2 := ⟨_, rfl⟩
  have bC : w2.heap[q]? = some (.cells #[.int .u32 code] 22) := by
    rw [← hw2, ← hq]; exact (Below.heap_alloc _ _ _ (by simp)).trans (heap_alloc_new w _)
  have bO : w2.heap[q + 1]? = some (.cells #[.int .u32 0, .int .i64 0, .int .i64 0, .int .i64 0, .int .i64 0, .int .i64 0] 24) := by
    rw [← hw2, ← hq]
    have := heap_alloc_new (w.alloc (.cells #[.int .u32 code] 22)) (.cells #[.int .u32 0, .int .i64 0, .int .i64 0, .int .i64 0, .int .i64 0, .int .i64 0] 24)
    rwa [World.size_alloc] at this
  have hk2 : Below q w w2 := by rw [← hw2, ← hq]; exact ((Below.refl _ w).alloc (Nat.le_refl _) _).alloc (by simp) _
  have hsz : w2.heap.size = q + 2 := by rw [← hw2, ← hq]; simp
  have hC := caughtO_any q code w2 B (hT.below (hk2.mono (by omega))) (by omega) hc (by simp [World.cell?, bC])
  unfold OPost at hC ⊢
  rw [hq]
  generalize o0 code = x0 at hC ⊢
  generalize o1 code = x1 at hC ⊢
  generalize o2 code = x2 at hC ⊢
  generalize o3 code = x3 at hC ⊢
  generalize o4 code = x4 at hC ⊢
  generalize o5 code = x5 at hC ⊢
  generalize oE code = xe at hC ⊢
  have HQ := Lib.hid hq
  go_enter Tryd.func9, Tryd.ntmps9
  go_wp2_with fail
  refine hC.mono ?_
  rintro e w3 ⟨rfl, hb3⟩
  have bO3 := (hb3.block (q + 1) (by omega)).trans bO
  have hk3 : Below q w w3 := hk2.trans (hb3.mono (by omega))
  clear hC hb3 bO bC hk2 hsz hw2
  have g0 : w3.cell? ⟨q + 1, 0, none⟩ = some (.int .u32 0) := by simp [World.cell?, bO3]
  have g1 : w3.cell? ⟨q + 1, 1, none⟩ = some (.int .i64 0) := by simp [World.cell?, bO3]
  have g2 : w3.cell? ⟨q + 1, 2, none⟩ = some (.int .i64 0) := by simp [World.cell?, bO3]
  have g3 : w3.cell? ⟨q + 1, 3, none⟩ = some (.int .i64 0) := by simp [World.cell?, bO3]
  have g4 : w3.cell? ⟨q + 1, 4, none⟩ = some (.int .i64 0) := by simp [World.cell?, bO3]
  have g5 : w3.cell? ⟨q + 1, 5, none⟩ = some (.int .i64 0) := by simp [World.cell?, bO3]
  have z : ∀ k, w3.frozen? ⟨q + 1, k, none⟩ = false := fun k => by simp [World.frozen?, bO3]
  have z0 := z 0
  have z1 := z 1
  have z2 := z 2
  have z3 := z 3
  have z4 := z 4
  have z5 := z 5
  clear z
  go_wp2_with fail
  have r1 := set6_row bO3 (.int .u32 x0) (.int .i64 x1) (.int .i64 x2) (.int .i64 x3) (.int .i64 x4) (.int .i64 x5)
  have hk4 := ((((((Kept.refl q (fun g => g = q) w3).set (q + 1) 0 (.int .u32 x0) (.inl (by omega))).set (q + 1) 1 (.int .i64 x1) (.inl (by omega))).set (q + 1) 2 (.int .i64 x2) (.inl (by omega))).set (q + 1) 3 (.int .i64 x3) (.inl (by omega))).set (q + 1) 4 (.int .i64 x4) (.inl (by omega))).set (q + 1) 5 (.int .i64 x5) (.inl (by omega))
  generalize (((((w3.setCell ⟨q + 1, 0, none⟩ (.int .u32 x0)).setCell ⟨q + 1, 1, none⟩ (.int .i64 x1)).setCell ⟨q + 1, 2, none⟩ (.int .i64 x2)).setCell ⟨q + 1, 3, none⟩ (.int .i64 x3)).setCell ⟨q + 1, 4, none⟩ (.int .i64 x4)).setCell ⟨q + 1, 5, none⟩ (.int .i64 x5) = w4 at r1 hk4 ⊢
  have hbel : Below q w w4 := ((Kept.of_below (S := fun _ => False) hk3).trans hk4 (Nat.le_refl _) (fun k hk h => by omega)).below
  have c0 : w4.cell? ⟨q + 1, 0, none⟩ = some (.int .u32 x0) := by simp [World.cell?, r1]
  have c1 : w4.cell? ⟨q + 1, 1, none⟩ = some (.int .i64 x1) := by simp [World.cell?, r1]
  have c2 : w4.cell? ⟨q + 1, 2, none⟩ = some (.int .i64 x2) := by simp [World.cell?, r1]
  have c3 : w4.cell? ⟨q + 1, 3, none⟩ = some (.int .i64 x3) := by simp [World.cell?, r1]
  have c4 : w4.cell? ⟨q + 1, 4, none⟩ = some (.int .i64 x4) := by simp [World.cell?, r1]
  have c5 : w4.cell? ⟨q + 1, 5, none⟩ = some (.int .i64 x5) := by simp [World.cell?, r1]
  clear r1 hk4 g0 g1 g2 g3 g4 g5 z0 z1 z2 z3 z4 z5
  refine bodyPost_ret (v := .tuple #[.agg #[.int .u32 x0, .int .i64 x1, .int .i64 x2, .int .i64 x3, .int .i64 x4, .int .i64 x5], .int .i64 xe]) (by simp [results, Tryd.results9, go_sem, c0, c1, c2, c3, c4, c5]) rfl ⟨rfl, hbel⟩

/-! ### Sets of trees -/
def tOwn (c : Int) : Prop := 4026531841 ≤ c ∧ c ≤ 4026531856
def tStd (c : Int) : Prop := 5 ≤ c ∧ c ≤ 24
instance (c : Int) : Decidable (tOwn c) := by unfold tOwn; infer_instance
instance (c : Int) : Decidable (tStd c) := by unfold tStd; infer_instance
def tI (c : Int) : Nat := (c - 5).toNat
def tJ (c : Int) : Nat := (c - 4026531841).toNat
def t0 (c : Int) : Int := if tStd c then c else if tOwn c then c else 0
def t1 (c : Int) : Int := if tStd c then ((tI c / 5 / 2 : Nat) : Int) else if tOwn c then ((tJ c / 4 / 2 : Nat) : Int) else 0
def t2 (c : Int) : Int := if tStd c then (sN (tI c / 5) : Int) else if tOwn c then (sN (tJ c / 4) : Int) else 0
def t3 (c : Int) : Int := if tStd c then gt heightsL (tI c % 5) else if tOwn c then gt ownL (tJ c % 4) else 0
def tE (c : Int) : Int := if tStd c then 0 else if tOwn c then 0 else 4
def TPost (c : Int) (w : World) (e : Ending) (w' : World) : Prop := e = .returned (.tuple #[.agg #[.int .u32 (t0 c), .int .i64 (t1 c), .int .i64 (t2 c), .int .i64 (t3 c)], .int .i64 (tE c)]) ∧ Below w.heap.size w w'
theorem caughtT_any (cb : Nat) (code : Int) (w : World) (B : Nat) (hT : STab w B) (hB : B ≤ w.heap.size) (hc : 0 ≤ code ∧ code < 4294967296) (hcell : w.cell? ⟨cb, 0, none⟩ = some (.int .u32 code)) :
    Calls Tryd.prog 26 #[.func (.func 27) #[] #[.pointer (some ⟨cb, 0, none⟩)]] w (TPost code w) := by
  have hlt : cb < w.heap.size := World.block_lt_of_cell? w _ hcell
  by_cases h : tStd code
  · have h2 : code = ((tI code : Nat) : Int) + 5 := by unfold tI; unfold tStd at h; omega
    have h3 : tI code < 20 := by unfold tStd at h; omega
    have := caughtT_ret cb w (t0 code) (t1 code) (t2 code) (t3 code) (fun w' hb => by
      have := tree1_std cb (tI code) code w' B (hT.below (hb.mono hB)) (Nat.le_trans hB hb.size) h2 h3 ((World.cell?_of_block (hb.block cb hlt)).trans hcell)
      unfold treeM at this
      unfold t0 t1 t2 t3
      simp only [if_pos h]
      exact this)
    refine this.mono fun e w' ⟨he, hb⟩ => ⟨?_, hb⟩
    rw [he]; unfold tE; rw [if_pos h]
  · by_cases h' : tOwn code
    · have h2 : code = ((tJ code : Nat) : Int) + 4026531841 := by unfold tJ; unfold tOwn at h'; omega
      have h3 : tJ code < 16 := by unfold tOwn at h'; omega
      have := caughtT_ret cb w (t0 code) (t1 code) (t2 code) (t3 code) (fun w' hb => by
        have := tree1_own cb (tJ code) code w' B (hT.below (hb.mono hB)) (Nat.le_trans hB hb.size) h2 h3 ((World.cell?_of_block (hb.block cb hlt)).trans hcell)
        unfold treeM at this
        unfold t0 t1 t2 t3
        simp only [if_neg h, if_pos h']
        exact this)
      refine this.mono fun e w' ⟨he, hb⟩ => ⟨?_, hb⟩
      rw [he]; unfold tE; rw [if_neg h, if_pos h']
    · have := caughtT_no cb w (fun w' hb => tree1_none cb code w' hc ((World.cell?_of_block (hb.block cb hlt)).trans hcell) (by unfold tStd at h; unfold tOwn at h'; omega))
      refine this.mono fun e w' ⟨he, hb⟩ => ⟨?_, hb⟩
      rw [he]; unfold tE t0 t1 t2 t3; simp only [if_neg h, if_neg h']
theorem tree_any (code : Int) (w : World) (B : Nat) (hT : STab w B) (hB : B ≤ w.heap.size) (hc : 0 ≤ code ∧ code < 4294967296) :
    Calls Tryd.prog 11 #[.int .u32 code] w (TPost code w) := by
  have hmf : ∀ (fn : Fn) (first cap : Array Value) (w : World), (Instr.makeFunc fn first cap).run Tryd.prog w = .ok (.func fn first cap) w := fun _ _ _ _ => rfl
  obtain ⟨q, hq⟩ : ∃ q, w.heap.size = q := ⟨_, rfl⟩
  obtain ⟨w2, hw2⟩ : ∃ w2, (w.alloc (.cells #[.int .u32 code] 22)).alloc (.cells #[.int .u32 0, .int .i64 0, .int .i64 0, .int .i64 0] 26) = w2 := ⟨_, rfl⟩
  have bC : w2.heap[q]? = some (.cells #[.int .u32 code] 22) := by
    rw [← hw2, ← hq]; exact (Below.heap_alloc _ _ _ (by simp)).trans (heap_alloc_new w _)
  have bO : w2.heap[q + 1]? = some (.cells #[.int .u32 0, .int .i64 0, .int .i64 0, .int .i64 0] 26) := by
    rw [← hw2, ← hq]
    have := heap_alloc_new (w.alloc (.cells #[.int .u32 code] 22)) (.cells #[.int .u32 0, .int .i64 0, .int .i64 0, .int .i64 0] 26)
    rwa [World.size_alloc] at this
  have hk2 : Below q w w2 := by rw [← hw2, ← hq]; exact ((Below.refl _ w).alloc (Nat.le_refl _) _).alloc (by simp) _
  have hsz : w2.heap.size = q + 2 := by rw [← hw2, ← hq]; simp
  have hC := caughtT_any q code w2 B (hT.below (hk2.mono (by omega))) (by omega) hc (by simp [World.cell?, bC])
  unfold TPost at hC ⊢
  rw [hq]
  generalize t0 code = x0 at hC ⊢
  generalize t1 code = x1 at hC ⊢
  generalize t2 code = x2 at hC ⊢
  generalize t3 code = x3 at hC ⊢
  generalize tE code = xe at hC ⊢
  have HQ := Lib.hid hq
  go_enter Tryd.func11, Tryd.ntmps11
  go_wp2_with fail
  refine hC.mono ?_
  rintro e w3 ⟨rfl, hb3⟩
  have bO3 := (hb3.block (q + 1) (by omega)).trans bO
  have hk3 : Below q w w3 := hk2.trans (hb3.mono (by omega))
  clear hC hb3 bO bC hk2 hsz hw2
  have g0 : w3.cell? ⟨q + 1, 0, none⟩ = some (.int .u32 0) := by simp [World.cell?, bO3]
  have g1 : w3.cell? ⟨q + 1, 1, none⟩ = some (.int .i64 0) := by simp [World.cell?, bO3]
  have g2 : w3.cell? ⟨q + 1, 2, none⟩ = some (.int .i64 0) := by simp [World.cell?, bO3]
  have g3 : w3.cell? ⟨q + 1, 3, none⟩ = some (.int .i64 0) := by simp [World.cell?, bO3]
  have z : ∀ k, w3.frozen? ⟨q + 1, k, none⟩ = false := fun k => by simp [World.frozen?, bO3]
  have z0 := z 0
  have z1 := z 1
  have z2 := z 2
  have z3 := z 3
  clear z
  go_wp2_with fail
  have r1 := set4_row bO3 (.int .u32 x0) (.int .i64 x1) (.int .i64 x2) (.int .i64 x3)
  have hk4 := ((((Kept.refl q (fun g => g = q) w3).set (q + 1) 0 (.int .u32 x0) (.inl (by omega))).set (q + 1) 1 (.int .i64 x1) (.inl (by omega))).set (q + 1) 2 (.int .i64 x2) (.inl (by omega))).set (q + 1) 3 (.int .i64 x3) (.inl (by omega))
  generalize (((w3.setCell ⟨q + 1, 0, none⟩ (.int .u32 x0)).setCell ⟨q + 1, 1, none⟩ (.int .i64 x1)).setCell ⟨q + 1, 2, none⟩ (.int .i64 x2)).setCell ⟨q + 1, 3, none⟩ (.int .i64 x3) = w4 at r1 hk4 ⊢
  have hbel : Below q w w4 := ((Kept.of_below (S := fun _ => False) hk3).trans hk4 (Nat.le_refl _) (fun k hk h => by omega)).below
  have c0 : w4.cell? ⟨q + 1, 0, none⟩ = some (.int .u32 x0) := by simp [World.cell?, r1]
  have c1 : w4.cell? ⟨q + 1, 1, none⟩ = some (.int .i64 x1) := by simp [World.cell?, r1]
  have c2 : w4.cell? ⟨q + 1, 2, none⟩ = some (.int .i64 x2) := by simp [World.cell?, r1]
  have c3 : w4.cell? ⟨q + 1, 3, none⟩ = some (.int .i64 x3) := by simp [World.cell?, r1]
  clear r1 hk4 g0 g1 g2 g3 z0 z1 z2 z3
  refine bodyPost_ret (v := .tuple #[.agg #[.int .u32 x0, .int .i64 x1, .int .i64 x2, .int .i64 x3], .int .i64 xe]) (by simp [results, Tryd.results11, go_sem, c0, c1, c2, c3]) rfl ⟨rfl, hbel⟩
end Go.Proofs.YtigedohalangbaaDoor
