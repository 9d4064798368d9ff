/- sets.at. The tables of layer 8. -/
import Derived.Test.YtigedohalangbaaDoorD7F
import Derived.Test.YtigedohalangbaaDoorRSh
import Derived.BigQuiet
import Derived.IntWalk
namespace Go.Proofs.YtigedohalangbaaDoor
open Go.RowKit
set_option linter.unusedVariables false
set_option linter.unusedSimpArgs false

def sumsL : List Int := [0, 32, 0, 24, 1, 32, 1, 24]
def widthsL : List Int := [1, 2, 4, 8]
def heightsL : List Int := [5, 10, 15, 20, 25]
def ownL : List Int := [1, 2, 3, 4]
/-- The tables, laid in blocks below B. -/
structure STab (w : World) (B : Nat) : Prop where
  s : Tab w 3 .i64 sumsL
  wd : Tab w 0 .i64 widthsL
  h : Tab w 2 .i64 heightsL
  o : Tab w 1 .i64 ownL
  lt : 3 < B ∧ 0 < B ∧ 2 < B ∧ 1 < B
theorem STab.below {w w' : World} {B : Nat} (h : STab w B) (hk : Below B w w') : STab w' B :=
  ⟨h.s.kept (Kept.of_below (S := fun _ => False) hk) h.lt.1 (fun h => h), h.wd.kept (Kept.of_below (S := fun _ => False) hk) h.lt.2.1 (fun h => h), h.h.kept (Kept.of_below (S := fun _ => False) hk) h.lt.2.2.1 (fun h => h), h.o.kept (Kept.of_below (S := fun _ => False) hk) h.lt.2.2.2 (fun h => h), h.lt⟩
theorem STab.more {w : World} {B B' : Nat} (h : STab w B) (hB : B ≤ B') : STab w B' := ⟨h.s, h.wd, h.h, h.o, by have := h.lt; omega⟩
theorem below_dr {B : Nat} {w w' : World} (h : Below B w w') : Below B w w'.drew := ⟨h.os, h.tape, h.output, h.size, h.block⟩
/-- What leaves where there is no set. -/
def unk : PanicEntry := { v := .iface 67 (.agg #[]), recovered := false }
theorem at_none (code first each : Int) (w : World) (hc : 0 ≤ code ∧ code < 4294967296) (hf : 0 ≤ first ∧ first < 4294967296) (he : each = 4 ∨ each = 5) (h : code - first < 0 ∨ each * 4 ≤ code - first) :
    Calls Tryd.prog 23 #[.int .u32 code, .int .u32 first, .int .i64 each] w fun e w' => e = .panicked [unk] ∧ Below w.heap.size w w' := by
  obtain ⟨hc0, hc1⟩ := hc
  obtain ⟨hf0, hf1⟩ := hf
  obtain ⟨i, hi⟩ : ∃ i : Int, code - first = i := ⟨_, rfl⟩
  rw [hi] at h
  by_cases h0 : i < 0
  · have h0B : decide (i < 0) = true := by simpa using h0
    go_enter Tryd.func23, Tryd.ntmps23
    go_wp2_with fail
    exact ⟨rfl, rfl, (Below.refl _ w).alloc (Nat.le_refl _) _⟩
  · have h0B : decide (i < 0) = false := by simpa using h0
    have h1B : each * 4 ≤ i := h.resolve_left h0
    rcases he with rfl | rfl
    all_goals
      go_enter Tryd.func23, Tryd.ntmps23
      go_wp2_with fail
      exact ⟨rfl, rfl, (Below.refl _ w).alloc (Nat.le_refl _) _⟩
def AtPost (w : World) (j r : Nat) (e : Ending) (w' : World) : Prop := e = .returned (.tuple #[.agg #[.int .i64 (gt sumsL (j * 2)), .int .i64 (gt sumsL (j * 2 + 1))], .int .i64 (r : Int)]) ∧ Below w.heap.size w w'
theorem at_4 (code first : Int) (i j r : Nat) (w : World) (B : Nat) (hT : STab w B) (hc : 0 ≤ code ∧ code < 4294967296) (hf : 0 ≤ first ∧ first < 4294967296) (hi : code - first = (i : Int)) (h16 : i < 16) (hj : i / 4 = j) (hr : i % 4 = r) :
    Calls Tryd.prog 23 #[.int .u32 code, .int .u32 first, .int .i64 4] w (AtPost w j r) := by
  obtain ⟨hc0, hc1⟩ := hc
  obtain ⟨hf0, hf1⟩ := hf
  have hqI : (i : Int) / 4 = (j : Int) := by omega
  have hrI : (i : Int) % 4 = (r : Int) := by omega
  have h16I : (i : Int) < 16 := by omega
  have hj4 : j < 4 := by omega
  have hj4I : (j : Int) < 4 := by omega
  have hc1 := hT.s (j * 2) (by show j * 2 < 8; omega)
  have hc2 := hT.s (j * 2 + 1) (by show j * 2 + 1 < 8; omega)
  have hlt := hT.lt
  clear hj hr
  go_enter Tryd.func23, Tryd.ntmps23
  go_wp2_with fail
  have ht1 : (i : Int).tdiv 4 = (j : Int) := by rw [Int.tdiv_eq_ediv_of_nonneg (by omega)]; exact hqI
  have ht2 : (i : Int).tmod 4 = (r : Int) := by rw [Int.tmod_eq_emod_of_nonneg (by omega)]; exact hrI
  have hjw : IntKind.i64.wrap (j : Int) = (j : Int) := IntWalk.i64_in _ (by omega)
  have hrw : IntKind.i64.wrap (r : Int) = (r : Int) := IntWalk.i64_in _ (by omega)
  have hT1 := (hT.more (show B ≤ B + w.heap.size by omega))
  have hw : 3 < w.heap.size := World.block_lt_of_cell? w _ hc1
  have hd1 : (w.alloc (.cells #[.int .i64 0, .int .i64 0] 50)).cell? ⟨3, j * 2, none⟩ = some (.int .i64 (gt sumsL (j * 2))) := (World.cell?_of_block (Below.heap_alloc w _ _ hw)).trans hc1
  have hd2 : (w.alloc (.cells #[.int .i64 0, .int .i64 0] 50)).cell? ⟨3, j * 2 + 1, none⟩ = some (.int .i64 (gt sumsL (j * 2 + 1))) := (World.cell?_of_block (Below.heap_alloc w _ _ hw)).trans hc2
  clear hT1 hT hc1 hc2
  go_region
  clear hd1 hd2
  go_wp2_with fail
  refine bodyPost_ret (v := .tuple #[.agg #[.int .i64 (gt sumsL (j * 2)), .int .i64 (gt sumsL (j * 2 + 1))], .int .i64 (r : Int)]) (by simp [results, Tryd.results23, go_sem]) rfl ⟨rfl, ?_⟩
  exact below_dr ((Below.refl _ w).alloc (Nat.le_refl _) _)
theorem at_5 (code first : Int) (i j r : Nat) (w : World) (B : Nat) (hT : STab w B) (hc : 0 ≤ code ∧ code < 4294967296) (hf : 0 ≤ first ∧ first < 4294967296) (hi : code - first = (i : Int)) (h16 : i < 20) (hj : i / 5 = j) (hr : i % 5 = r) :
    Calls Tryd.prog 23 #[.int .u32 code, .int .u32 first, .int .i64 5] w (AtPost w j r) := by
  obtain ⟨hc0, hc1⟩ := hc
  obtain ⟨hf0, hf1⟩ := hf
  have hqI : (i : Int) / 5 = (j : Int) := by omega
  have hrI : (i : Int) % 5 = (r : Int) := by omega
  have h16I : (i : Int) < 20 := by omega
  have hj4 : j < 4 := by omega
  have hj4I : (j : Int) < 4 := by omega
  have hc1 := hT.s (j * 2) (by show j * 2 < 8; omega)
  have hc2 := hT.s (j * 2 + 1) (by show j * 2 + 1 < 8; omega)
  have hlt := hT.lt
  clear hj hr
  go_enter Tryd.func23, Tryd.ntmps23
  go_wp2_with fail
  have ht1 : (i : Int).tdiv 5 = (j : Int) := by rw [Int.tdiv_eq_ediv_of_nonneg (by omega)]; exact hqI
  have ht2 : (i : Int).tmod 5 = (r : Int) := by rw [Int.tmod_eq_emod_of_nonneg (by omega)]; exact hrI
  have hjw : IntKind.i64.wrap (j : Int) = (j : Int) := IntWalk.i64_in _ (by omega)
  have hrw : IntKind.i64.wrap (r : Int) = (r : Int) := IntWalk.i64_in _ (by omega)
  have hT1 := (hT.more (show B ≤ B + w.heap.size by omega))
  have hw : 3 < w.heap.size := World.block_lt_of_cell? w _ hc1
  have hd1 : (w.alloc (.cells #[.int .i64 0, .int .i64 0] 50)).cell? ⟨3, j * 2, none⟩ = some (.int .i64 (gt sumsL (j * 2))) := (World.cell?_of_block (Below.heap_alloc w _ _ hw)).trans hc1
  have hd2 : (w.alloc (.cells #[.int .i64 0, .int .i64 0] 50)).cell? ⟨3, j * 2 + 1, none⟩ = some (.int .i64 (gt sumsL (j * 2 + 1))) := (World.cell?_of_block (Below.heap_alloc w _ _ hw)).trans hc2
  clear hT1 hT hc1 hc2
  go_region
  clear hd1 hd2
  go_wp2_with fail
  refine bodyPost_ret (v := .tuple #[.agg #[.int .i64 (gt sumsL (j * 2)), .int .i64 (gt sumsL (j * 2 + 1))], .int .i64 (r : Int)]) (by simp [results, Tryd.results23, go_sem]) rfl ⟨rfl, ?_⟩
  exact below_dr ((Below.refl _ w).alloc (Nat.le_refl _) _)
end Go.Proofs.YtigedohalangbaaDoor
