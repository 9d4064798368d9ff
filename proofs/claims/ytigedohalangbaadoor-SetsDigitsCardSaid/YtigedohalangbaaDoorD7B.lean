/- slices.Index, slices.Contains, digits.May. Conditions: the slice reads as numbers. -/
import Derived.Test.YtigedohalangbaaDoorInf
import Derived.Test.YtigedohalangbaaDoorD7Pure
import Derived.Deep.LoopGhost
import Derived.Outline
namespace Go.Proofs.YtigedohalangbaaDoor
open Go.RowKit
set_option linter.unusedVariables false
set_option linter.unusedSimpArgs false

def IndexPost (w : World) (l : List Int) (v : Int) (e : Ending) (w' : World) : Prop := ∃ r : Int, e = .returned (.int .i64 r) ∧ w = w' ∧ -1 ≤ r ∧ r ≤ l.length ∧ (0 ≤ r ↔ v ∈ l)
theorem index_any (l : List Int) (A : Option Addr) (c B n : Nat) (v : Int) (w : World) (hr : Rd w B .i64 A l) (hn : l.length = n) (hm : n ≤ 9223372036854775807) :
    Calls Tryd.prog 41 #[.slice A n c, .int .i64 v] w (IndexPost w l v) := by
  go_enter Tryd.func41, Tryd.ntmps41
  go_wp2_with fail
  go_loopg [5, 8] n (fun g s5 s8 wr => w = wr ∧ ∃ i : Nat, i ≤ n ∧ g = n - i ∧ s8 = .int .i64 i ∧ ∀ j, j < i → gt l j ≠ v)
  case atStart => exact ⟨rfl, 0, Nat.zero_le _, rfl, rfl, fun j h => absurd h (by omega)⟩
  case round =>
    obtain ⟨rfl, i, hi, hg, rfl, hno⟩ := hrel
    have HG := Lib.hid hg
    have HNO := Lib.hid hno
    clear hg hno
    by_cases hlt : i < n
    · have hltI : (i : Int) < (n : Int) := by omega
      obtain ⟨ad, rfl, _, hc⟩ := hr.at_ (i := i) (by omega)
      obtain ⟨y, hy⟩ : ∃ y, gt l i = y := ⟨_, rfl⟩
      rw [hy] at hc
      have HY := Lib.hid hy
      clear hy
      by_cases hv : v = y
      · have hvB : (v == y) = true := by simpa using hv
        have HV := Lib.hid hv
        clear hv
        go_wp2_with fail
        go_ret
        exact ⟨i, rfl, rfl, by omega, by omega, fun _ => by rw [HV.out, ← HY.out]; exact gt_mem l i (by omega), fun _ => by omega⟩
      · have hvB : (v == y) = false := by simpa using hv
        have HV := Lib.hid hv
        clear hv
        go_wp2_with fail
        go_roundg (n - (i + 1))
        case measure => have := HG.out; omega
        case rel =>
          refine ⟨rfl, i + 1, by omega, rfl, by go_num, fun j hj => ?_⟩
          rcases Nat.lt_or_ge j i with h | h
          · exact HNO.out j h
          · obtain rfl : j = i := by omega
            rw [HY.out]; exact fun e => HV.out e.symm
    · have hltI : ¬ (i : Int) < (n : Int) := by omega
      obtain rfl : i = n := by omega
      go_wp2_with fail
      go_ret
      refine ⟨-1, rfl, rfl, by omega, by omega, fun h => absurd h (by omega), fun h => ?_⟩
      obtain ⟨j, hj, e⟩ := List.mem_iff_getElem.1 h
      exact absurd (by simp [gt, e, hj] : gt l j = v) (HNO.out j (by omega))
theorem contains_any (b : Bool) (l : List Int) (A : Option Addr) (c B n : Nat) (v : Int) (w : World) (hr : Rd w B .i64 A l) (hn : l.length = n) (hm : n ≤ 9223372036854775807) (hb : decide (v ∈ l) = b) :
    Calls Tryd.prog 34 #[.slice A n c, .int .i64 v] w fun e w' => e = .returned (.bool b) ∧ w = w' := by
  have hI := index_any l A c B n v w hr hn hm
  go_enter Tryd.func34, Tryd.ntmps34
  go_wp2_with fail
  refine hI.mono ?_
  rintro e w' ⟨r, rfl, rfl, h1, h2, h3⟩
  have h4 : decide ((r : Int) ≥ 0) = b := by rw [← hb]; exact decide_eq_decide.2 h3
  have H4 := Lib.hid h4
  clear hI h3 h4 hb hr
  go_wp2_with fail
  all_goals go_ret
  all_goals exact ⟨by rw [← H4.out]; simp [*], rfl⟩

theorem widths_any (w : World) : Calls Tryd.prog 33 #[] w fun e w' => e = .returned (.agg (U .i64 [1, 2, 4, 8])) ∧ Below w.heap.size w w' := by
  go_enter Tryd.func33, Tryd.ntmps33
  go_wp2_with fail
  exact bodyPost_arr (k := .i64) (l := [1, 2, 4, 8]) 0 53 4 Tryd.underlying53 rfl (by kernel_rfl) rfl rfl rfl (Arr.new w 53 .i64 [1, 2, 4, 8]) rfl ⟨rfl, ((Kept.refl w.heap.size (fun _ => False) w).alloc _ (Nat.le_refl _)).below⟩

def mayB (w : Int) : Bool := decide (w = 1 ∨ w = 2 ∨ w = 4 ∨ w = 8)
theorem may_any (b : Bool) (v : Int) (w : World) (hb : mayB v = b) : Calls Tryd.prog 20 #[.int .i64 v] w fun e w' => e = .returned (.bool b) ∧ Below w.heap.size w w' := by
  go_enter Tryd.func20, Tryd.ntmps20
  go_wp2_with fail
  refine (widths_any w).mono ?_
  rintro e w1 ⟨rfl, h1⟩
  have hs := h1.size
  have hA : Arr (w1.alloc (.cells #[.int .i64 0, .int .i64 0, .int .i64 0, .int .i64 0] 53)) w1.heap.size 53 .i64 [0, 0, 0, 0] := Arr.new w1 53 .i64 [0, 0, 0, 0]
  have hA2 := hA.setRow [1, 2, 4, 8]
  have hK2 := (((Kept.refl w1.heap.size (fun _ => False) w1).alloc (.cells #[.int .i64 0, .int .i64 0, .int .i64 0, .int .i64 0] 53) (Nat.le_refl _)).setRow w1.heap.size (U .i64 [1, 2, 4, 8]) (.inl (Nat.le_refl _)))
  go_wp2_with (refine wpList_store_arr rfl 53 _ _ rfl rfl rfl hA 4 (by kernel_rfl) rfl rfl ?_)
  generalize (w1.alloc _).setRow _ _ = w2 at hA2 hK2 ⊢
  have hR : Rd w2 (w1.heap.size + 1) .i64 (some ⟨w1.heap.size, 0, none⟩) [1, 2, 4, 8] := Rd.of_arr hA2 (Nat.lt_succ_self _)
  refine (contains_any b [1, 2, 4, 8] _ 4 _ 4 v w2 hR rfl (by decide) ?_).mono ?_
  · rw [← hb, mayB]; congr 1; simp
  · rintro e w' ⟨rfl, rfl⟩
    go_wp2_with fail
    go_ret
    exact ⟨rfl, h1.trans (hK2.below.mono hs)⟩
end Go.Proofs.YtigedohalangbaaDoor
