/- The answers that the document fixes of layer 1, walked. Conditions: none. -/
import Derived.Test.YtigedohalangbaaO1A
import Derived.Test.YtigedohalangbaaO1B
import Derived.Test.YtigedohalangbaaO1C
import Derived.Test.YtigedohalangbaaO1E
import Derived.Test.YtigedohalangbaaO1F
import Derived.Test.YtigedohalangbaaShA
namespace Go.Proofs.Ytigedohalangbaa
open Go.RowKit
set_option linter.unusedVariables false
set_option linter.unusedSimpArgs false

theorem rsame_any (b : Bool) (w : World) (A A' : Option Addr) (l m : List Int) (n n' c c' B B' : Nat) (hA : Rd w B .u8 A l) (hB : Rd w B' .u8 A' m) (hn : l.length = n) (hn' : m.length = n') (hm : n' ≤ 9223372036854775807) (hb : decide (l = m) = b) :
    Calls Try.prog 29 #[.slice A n c, .slice A' n' c'] w fun e w' => e = .returned (.bool b) ∧ ∃ q, w' = w.drewN q := by
  subst hn hn' hb
  exact same_any w A A' l m c c' B B' hA hB hm
theorem bysL (l : List Int) (h : (l.all fun x => decide (0 ≤ x ∧ x < 256)) = true) : Bys l := fun x hx => by
  have := List.all_eq_true.1 h x hx
  show 0 ≤ x ∧ x < 256
  exact of_decide_eq_true this
theorem lit_rd (w : World) (T : Nat) (k : IntKind) (l : List Int) : Rd (w.alloc (.cells (U k l) T)) (w.alloc (.cells (U k l) T)).heap.size k (some ⟨w.heap.size, 0, none⟩) l := Rd.of_arr (Arr.new w T k l) (by simp)
theorem below_drN {B : Nat} {w w' : World} (h : Below B w w') (n : Nat) : Below B w (w'.drewN n) := ⟨h.os, h.tape, h.output, h.size, h.block⟩

set_option maxRecDepth 100000 in
set_option maxHeartbeats 2000000 in
theorem awake1_any (w : World) : Calls Try.prog 25 #[] w fun e w' => e = .returned (.bool true) ∧ Below w.heap.size w w' := by
  go_enter Try.func25, Try.ntmps25
  go_wp2_with fail
  refine (put_any 258 3 3 w rfl (by decide)).mono ?_
  rintro e w1 ⟨A1, c1, rfl, hO1, hb1⟩
  rw [show putL 258 3 = [0, 1, 2] by decide] at hO1
  have hs1 := hb1.size
  have hR1 := hO1.rd
  clear hO1
  go_wp2_with fail
  have hr2 : Rd (w1.alloc (.cells #[.int .u8 1, .int .u8 2] 5)) (w1.heap.size + 1) .u8 (some ⟨w1.heap.size, 0, none⟩) [1, 2] := Rd.of_arr (Arr.new w1 5 .u8 [1, 2]) (by simp)
  refine (get_any [1, 2] _ 2 _ 2 _ hr2 (bysL _ (by decide)) rfl (by decide)).mono ?_
  rintro e w2 ⟨rfl, rfl⟩
  rw [show beN [1, 2] 2 = 258 by decide]
  have hb2 := hb1.alloc hs1 (.cells #[.int .u8 1, .int .u8 2] 5)
  have hR2 := hR1.alloc (Nat.le_refl _) (.cells #[.int .u8 1, .int .u8 2] 5)
  have hz2 : w1.heap.size ≤ (w1.alloc (.cells #[.int .u8 1, .int .u8 2] 5)).heap.size := by simp
  generalize w1.alloc (.cells #[.int .u8 1, .int .u8 2] 5) = w2 at hb2 hR2 hz2 ⊢
  clear hr2 hb1 hR1
  have hs2 := hb2.size
  go_wp2_with fail
  have hA3 : Arr (w2.alloc (.cells #[.int .u8 1, .int .u8 2, .int .u8 3] 5)) w2.heap.size 5 .u8 [1, 2, 3] := Arr.new w2 5 .u8 [1, 2, 3]
  have hA4 := hA3.alloc (.cells #[.int .i64 1, .int .i64 2] 3)
  have hN4 : Arr ((w2.alloc (.cells #[.int .u8 1, .int .u8 2, .int .u8 3] 5)).alloc (.cells #[.int .i64 1, .int .i64 2] 3)) (w2.heap.size + 1) 3 .i64 [1, 2] := by
    have := Arr.new (w2.alloc (.cells #[.int .u8 1, .int .u8 2, .int .u8 3] 5)) 3 .i64 [1, 2]
    rwa [World.size_alloc] at this
  refine (cut_any [1, 2, 3] [1, 2] _ _ 3 3 2 2 0 _ (Rd.of_arr hA4 hA4.lt) (Rd.of_arr hN4 hN4.lt) rfl rfl rfl (by decide) (by intro h; cases h) (by decide) (by decide)).mono ?_
  rintro e w5 ⟨A5, c5, rfl, hP5, hc5, hb5⟩
  rw [show cutL [1, 2, 3] [1, 2] = [[1], [2, 3]] by decide] at hP5 hc5 ⊢
  have hb25 : Below w.heap.size w w5 := ((hb2.alloc hs2 _).alloc (by simp; omega) _).trans (hb5.mono (by simp; omega))
  have hR5 := ((hR2.more hz2).alloc (Nat.le_refl _) (.cells #[.int .u8 1, .int .u8 2, .int .u8 3] 5)).alloc (by simp) (.cells #[.int .i64 1, .int .i64 2] 3) |>.below (hb5.mono (by simp; omega))
  obtain ⟨ad, rfl, had, hcell⟩ := hP5 (by decide)
  obtain ⟨v1, hv1, B1, d1, rfl, hRB, hd1⟩ := hcell 1 (by decide)
  rw [show gl [[1], [2, 3]] 1 = [2, 3] by rfl] at hv1 hRB hd1
  have hs5 := hb25.size
  have hz5 : w2.heap.size ≤ w5.heap.size := by have := hb5.size; simp at this; omega
  clear hP5 hA3 hA4 hN4 hb5 hR2 hb2 hcell
  go_wp2_with fail
  have hA6 : Arr ((w5.alloc (.cells #[.int .u8 1] 5)).alloc (.cells #[.int .i64 2] 3)) (w5.heap.size + 1) 3 .i64 [2] := by
    have := Arr.new (w5.alloc (.cells #[.int .u8 1] 5)) 3 .i64 [2]
    rwa [World.size_alloc] at this
  refine (cut_short _ _ 1 1 1 _ 2 _ (Rd.of_arr hA6 hA6.lt) (by decide) (Nat.le_refl _)).mono ?_
  rintro e w6 ⟨rfl, hb6⟩
  have hb56 : Below w5.heap.size w5 w6 := (((Below.refl _ w5).alloc (Nat.le_refl _) (.cells #[.int .u8 1] 5)).alloc (by simp) (.cells #[.int .i64 2] 3)).trans (hb6.mono (by simp; omega))
  have hb26 : Below w.heap.size w w6 := hb25.trans (hb56.mono hs5)
  have hs6 := hb26.size
  have hR6 := hR5.below (hb56.mono hz5)
  have hRB6 := hRB.below hb56
  have hv6 := (World.cell?_of_block (a := ad.add 1) (hb56.block (ad.add 1).block (by rw [block_plus]; exact had))).trans hv1
  have hz6 := hb56.size
  have had6 : (ad.add 1).block < w6.heap.size := by rw [block_plus]; omega
  clear hb6 hA6 hb56 hR5 hRB hv1 hb25
  go_wp2_with fail
  have hr7 : Rd (w6.alloc (.cells #[.int .u8 0, .int .u8 1, .int .u8 2] 5)) (w6.heap.size + 1) .u8 (some ⟨w6.heap.size, 0, none⟩) [0, 1, 2] := Rd.of_arr (Arr.new w6 5 .u8 [0, 1, 2]) (by simp)
  refine (rsame_any true _ A1 _ [0, 1, 2] [0, 1, 2] 3 3 c1 3 _ _ ((hR6.more (by omega)).alloc (Nat.le_refl _) _) hr7 rfl rfl (by decide) (by decide)).mono ?_
  rintro e w7 ⟨rfl, q7, rfl⟩
  have hb27 := below_drN (hb26.alloc hs6 (.cells #[.int .u8 0, .int .u8 1, .int .u8 2] 5)) q7
  have hRB7 := (hRB6.more hz6).alloc (Nat.le_refl _) (.cells #[.int .u8 0, .int .u8 1, .int .u8 2] 5) |>.drewN q7
  have hv7 : ((w6.alloc (.cells #[.int .u8 0, .int .u8 1, .int .u8 2] 5)).drewN q7).cell? (ad.add 1) = some (.slice B1 2 d1) := cell_later _ hv6
  have hz7 : w6.heap.size ≤ ((w6.alloc (.cells #[.int .u8 0, .int .u8 1, .int .u8 2] 5)).drewN q7).heap.size := by show _ ≤ (w6.alloc _).heap.size; simp
  generalize (w6.alloc (.cells #[.int .u8 0, .int .u8 1, .int .u8 2] 5)).drewN q7 = w7 at hb27 hRB7 hv7 hz7 ⊢
  rw [show ad.add 1 = ⟨ad.block, ad.off + 1, none⟩ by unfold Addr.add; rw [if_neg (by decide)]] at hv7
  have hs7 := hb27.size
  clear hr7 hb26 hRB6 hv6 hR6
  go_wp2_with fail
  have hr8 : Rd (w7.alloc (.cells #[.int .u8 2, .int .u8 3] 5)) (w7.heap.size + 1) .u8 (some ⟨w7.heap.size, 0, none⟩) [2, 3] := Rd.of_arr (Arr.new w7 5 .u8 [2, 3]) (by simp)
  refine (rsame_any true _ B1 _ [2, 3] [2, 3] 2 2 d1 2 w7.heap.size _ ((hRB7.more hz7).alloc (Nat.le_refl _) _) hr8 rfl rfl (by decide) (by decide)).mono ?_
  rintro e w8 ⟨rfl, q8, rfl⟩
  have hb28 := below_drN (hb27.alloc hs7 (.cells #[.int .u8 2, .int .u8 3] 5)) q8
  generalize (w7.alloc (.cells #[.int .u8 2, .int .u8 3] 5)).drewN q8 = w8 at hb28 ⊢
  have hs8 := hb28.size
  clear hr8 hb27 hRB7 hv7
  go_wp2_with fail
  have hA1 := ((Arr.new w8 5 .u8 [1]).alloc (.cells #[.int .u8 2] 5))
  have hA2 : Arr ((w8.alloc (.cells #[.int .u8 1] 5)).alloc (.cells #[.int .u8 2] 5)) (w8.heap.size + 1) 5 .u8 [2] := by
    have := Arr.new (w8.alloc (.cells #[.int .u8 1] 5)) 5 .u8 [2]
    rwa [World.size_alloc] at this
  have hPL := Parts.lit (w := (w8.alloc (.cells #[.int .u8 1] 5)).alloc (.cells #[.int .u8 2] 5)) (T := 22) [.slice (some ⟨w8.heap.size, 0, none⟩) 1 1, .slice (some ⟨w8.heap.size + 1, 0, none⟩) 1 1] [[1], [2]] (Nat.le_refl _) rfl (fun i hi => by
    have : i = 0 ∨ i = 1 := by simp at hi; omega
    rcases this with rfl | rfl
    · exact ⟨_, 1, rfl, Rd.of_arr hA1 hA1.lt, by decide⟩
    · exact ⟨_, 1, rfl, Rd.of_arr hA2 hA2.lt, by decide⟩)
  simp only [World.size_alloc] at hPL
  refine (cat_any _ _ 2 _ 2 [[1], [2]] [1, 2] rfl hPL rfl (by simp) (by decide) (by decide) (by decide)).mono ?_
  rintro e w9 ⟨A9, c9, rfl, hF9, hb9⟩
  have hb29 : Below w.heap.size w w9 := (((hb28.alloc hs8 (.cells #[.int .u8 1] 5)).alloc (by simp; omega) (.cells #[.int .u8 2] 5)).alloc (by simp; omega) _).trans (hb9.mono (by simp; omega))
  have hR9 := hF9.rd
  have hs9 := hb29.size
  clear hA1 hA2 hPL hF9 hb9 hb28
  rw [show ([1, 2] : List Int).length = 2 from rfl]
  go_wp2_with fail
  have hrA : Rd (w9.alloc (.cells #[.int .u8 1, .int .u8 2] 5)) (w9.heap.size + 1) .u8 (some ⟨w9.heap.size, 0, none⟩) [1, 2] := Rd.of_arr (Arr.new w9 5 .u8 [1, 2]) (by simp)
  refine (osame_any true _ A9 _ [1, 2] [1, 2] 2 2 c9 2 _ _ (hR9.alloc (Nat.le_refl _) _) hrA rfl rfl (bysL _ (by decide)) (bysL _ (by decide)) (by decide)).mono ?_
  rintro e wA ⟨rfl, rfl⟩
  have hb2A := hb29.alloc hs9 (.cells #[.int .u8 1, .int .u8 2] 5)
  generalize w9.alloc (.cells #[.int .u8 1, .int .u8 2] 5) = wA at hb2A ⊢
  have hsA := hb2A.size
  clear hrA hb29 hR9
  go_wp2_with fail
  refine (fill_any 7 2 wA (by decide)).mono ?_
  rintro e wB ⟨AB, cB, rfl, hFB, hbB⟩
  rw [show List.replicate 2 (7 : Int) = [7, 7] from rfl] at hFB ⊢
  rw [show ([7, 7] : List Int).length = 2 from rfl]
  have hb2B : Below w.heap.size w wB := hb2A.trans (hbB.mono hsA)
  have hRB := hFB.rd
  have hsB := hb2B.size
  clear hFB hbB hb2A
  go_wp2_with fail
  have hrC : Rd (wB.alloc (.cells #[.int .u8 7, .int .u8 7] 5)) (wB.heap.size + 1) .u8 (some ⟨wB.heap.size, 0, none⟩) [7, 7] := Rd.of_arr (Arr.new wB 5 .u8 [7, 7]) (by simp)
  refine (rsame_any true _ AB _ [7, 7] [7, 7] 2 2 cB 2 _ _ (hRB.alloc (Nat.le_refl _) _) hrC rfl rfl (by decide) (by decide)).mono ?_
  rintro e wC ⟨rfl, qC, rfl⟩
  have hb2C := below_drN (hb2B.alloc hsB (.cells #[.int .u8 7, .int .u8 7] 5)) qC
  go_wp2_with fail
  go_ret
  exact ⟨rfl, hb2C⟩

end Go.Proofs.Ytigedohalangbaa
