/- The answers that the document fixes of layer 7, walked. Conditions: none. -/
import Derived.Test.YtigedohalangbaaD7I
namespace Go.Proofs.Ytigedohalangbaa
open Go.RowKit
set_option linter.unusedVariables false
set_option linter.unusedSimpArgs false

theorem shape_c (W : World) : Calls Try.prog 14 #[.int .i64 32, .int .i64 4] W (fun e W' => e = .returned (.tuple #[.int .i64 64, .int .i64 3, .int .i64 4]) ∧ Below W.heap.size W W') := by
  refine (shape_any 32 4 W (.inr (.inr (.inl rfl))) (by decide) (by decide)).mono ?_
  rintro e w' ⟨rfl, hB⟩
  exact ⟨rfl, hB⟩
theorem one_byte (w : World) : Rd (w.alloc (.cells #[.int .u8 31] 5)) (w.alloc (.cells #[.int .u8 31] 5)).heap.size .u8 (some ⟨w.heap.size, 0, none⟩) [31] := Rd.of_arr (Arr.new w 5 .u8 [31]) (by simp)
theorem two_ints (w : World) : Rd (w.alloc (.cells #[.int .i64 1, .int .i64 15] 3)) (w.alloc (.cells #[.int .i64 1, .int .i64 15] 3)).heap.size .i64 (some ⟨w.heap.size, 0, none⟩) [1, 15] := Rd.of_arr (Arr.new w 3 .i64 [1, 15]) (by simp)
theorem bys31 : Bys [31] := by unfold Bys B8; decide
theorem of_31 (w : World) : Calls Try.prog 19 #[.slice (some ⟨w.heap.size, 0, none⟩) 1 1, .int .i64 4] (w.alloc (.cells #[.int .u8 31] 5)) (OfPost (w.alloc (.cells #[.int .u8 31] 5)) [1, 15]) := by
  have h := of_any [31] _ 1 1 4 _ (.inr (.inr (.inl rfl))) rfl (by decide) bys31 (one_byte w)
  rw [show digL [31] 4 = [1, 15] by decide] at h
  exact h
theorem lack_31 (w : World) : Calls Try.prog 21 #[.slice (some ⟨w.heap.size, 0, none⟩) 1 1, .int .i64 4] (w.alloc (.cells #[.int .u8 31] 5)) (fun e w' => e = .returned (.int .i64 14) ∧ Below (w.heap.size + 1) (w.alloc (.cells #[.int .u8 31] 5)) w') := by
  have h := lack_any [31] _ 1 1 4 _ (.inr (.inr (.inl rfl))) rfl (by decide) bys31 (one_byte w)
  rw [show lackOf [31] 4 = 14 by decide, World.size_alloc] at h
  exact h
def AllPost (w : World) (n : Nat) (e : Ending) (w' : World) : Prop := ∃ A c l, e = .returned (.slice A n c) ∧ l.length = n ∧ Proofs.Ytigedohalangbaa.Own w' w.heap.size 3 .i64 (.slice A n c) l ∧ Below w.heap.size w w'
theorem zeros_B (n : Nat) : Bys (List.replicate n 0) := Bys.rep n (by unfold B8; decide)
theorem all_zeros (n wd N : Nat) (w : World) (b : Nat) (hw : IsW wd) (h1 : 1 ≤ n) (h64 : n ≤ 64) (hA : Arr w b 5 .u8 (List.replicate n 0)) (hN : uOf n wd + vOf n wd = N) :
    Calls Try.prog 23 #[.slice (some ⟨b, 0, none⟩) n n, .int .i64 (wd : Int)] w (AllPost w N) := by
  have hok := shape_ok wd hw n h64 h1
  obtain ⟨s, hs⟩ : ∃ s, wd * vOf n wd + s = 16 := ⟨16 - wd * vOf n wd, by omega⟩
  refine (all_any (List.replicate n 0) _ n n wd s w hw (by simp) h1 h64 (zeros_B n) (Rd.of_arr hA hA.lt) hs).mono ?_
  rintro e w' ⟨A, c, rfl, hO, hb⟩
  have hl : (allL (List.replicate n 0) wd (vOf n wd) s).length = N := by
    rw [allL_len _ _ _ _ (by rcases hw with rfl | rfl | rfl | rfl <;> omega), List.length_replicate, ← hok.1]; exact hN
  rw [hl] at hO ⊢
  exact ⟨A, c, _, rfl, hl, hO, hb⟩

set_option maxRecDepth 100000 in
set_option maxHeartbeats 1000000 in
theorem awake7_any (w : World) : Calls Try.prog 13 #[] w fun e w' => e = .returned (.bool true) ∧ Below w.heap.size w w' := by
  go_enter Try.func13, Try.ntmps13
  go_wp2_with fail
  refine (shape_c w).mono ?_
  rintro e w1 ⟨rfl, hb1⟩
  have hs1 := hb1.size
  go_wp2_with fail
  refine (of_31 w1).mono ?_
  rintro e w2 ⟨A2, c2, rfl, hO2, hb2⟩
  have hK2 : Below w.heap.size w w2 := (hb1.alloc hs1 _).trans (hb2.mono (by simp; omega))
  have hs2 := hK2.size
  have hR2 := hO2.rd
  clear hO2 hb2 hb1
  go_wp2_with fail
  refine (ints_true _ A2 (some ⟨w2.heap.size, 0, none⟩) [1, 15] 2 c2 2 _ _ (hR2.alloc (Nat.le_refl _) _) (two_ints w2) rfl (by decide)).mono ?_
  rintro e w3 ⟨rfl, q3, rfl⟩
  have hK3 : Below w.heap.size w ((w2.alloc (.cells #[.int .i64 1, .int .i64 15] 3)).drewN q3) := ((Kept.of_below (S := fun _ => False) (hK2.alloc hs2 _)).drewN _).below
  generalize (w2.alloc (.cells #[.int .i64 1, .int .i64 15] 3)).drewN q3 = w3 at hK3 ⊢
  have hs3 := hK3.size
  clear hR2 hK2
  go_wp2_with fail
  refine (lack_31 w3).mono ?_
  rintro e w4 ⟨rfl, hb4⟩
  have hK4 : Below w.heap.size w w4 := (hK3.alloc hs3 _).trans (hb4.mono (by omega))
  have hs4 := hK4.size
  clear hb4 hK3
  obtain ⟨Z, hZ⟩ : ∃ Z : List Int, List.replicate 32 0 = Z := ⟨_, rfl⟩
  have hmk : ∀ wx, (Instr.makeSlice 22 (.int .i64 32) (.int .i64 32)).run Try.prog wx = .ok (.slice (some ⟨wx.heap.size, 0, none⟩) 32 32) (wx.alloc (.cells (U .u8 Z) 5)) := fun wx => by
    rw [← hZ]; exact run_make_nums (P := Try.prog) wx 22 5 .u8 1 Try.underlying22 inf_u8 .i64 .i64 32 32 (by decide) (by decide) (by decide)
  have HZ := Lib.hid hZ
  clear hZ
  go_wp2_with fail
  have hZA := Arr.new w4 5 .u8 Z
  rw [← HZ.out] at hZA ⊢
  refine (all_zeros 32 4 67 _ w4.heap.size (.inr (.inr (.inl rfl))) (by decide) (by decide) hZA rfl).mono ?_
  rintro e w6 ⟨A6, c6, l6, rfl, _, _, hb6⟩
  have hK6 : Below w.heap.size w w6 := (hK4.alloc hs4 _).trans (hb6.mono (by simp; omega))
  have hs6 := hK6.size
  clear hb6 hZA hK4 hmk
  go_wp2_with fail
  refine (may_any true 8 w6 rfl).mono ?_
  rintro e w7 ⟨rfl, hb7⟩
  have hK7 : Below w.heap.size w w7 := hK6.trans (hb7.mono hs6)
  have hs7 := hK7.size
  clear hb7 hK6
  go_wp2_with fail
  refine (may_any false 3 w7 rfl).mono ?_
  rintro e w8 ⟨rfl, hb8⟩
  have hK8 : Below w.heap.size w w8 := hK7.trans (hb8.mono hs7)
  clear hb8 hK7
  go_wp2_with fail
  go_ret
  exact ⟨rfl, hK8⟩

end Go.Proofs.Ytigedohalangbaa
