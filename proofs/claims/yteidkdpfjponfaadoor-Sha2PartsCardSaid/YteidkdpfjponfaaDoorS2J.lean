/- What is asked of sha2 before a statement, walked. Conditions: the tables. -/
import Derived.Test.YteidkdpfjponfaaDoorS2I
import Derived.Test.YteidkdpfjponfaaDoorS2E
import Derived.Test.YteidkdpfjponfaaDoorShA
import Derived.Lib.SlBytesConst
import Derived.Lib.SmallJoins
namespace Go.Proofs.YteidkdpfjponfaaDoor
open Go.RowKit
set_option linter.unusedVariables false
set_option linter.unusedSimpArgs false

theorem Rd.marked2 (w : World) (T : Nat) (k : IntKind) (l : List Int) (fr : Nat × Nat) : Rd (w.alloc (.cells (U k l) T fr)) (w.heap.size + 1) k (some ⟨w.heap.size, 0, none⟩) l := fun hn =>
  ⟨_, rfl, Nat.lt_succ_self _, fun i hi => by rw [plus_head, World.cell?_alloc_mark w (U k l) T fr i, U_get k l i hi]⟩
theorem same2_true (w : World) (A A' : Option Addr) (l : List Int) (n c c' B B' : Nat) (hA : Rd w B .u8 A l) (hB : Rd w B' .u8 A' l) (hn : l.length = n) (hm : n ≤ 9223372036854775807) :
    Calls Tryd.prog 15 #[.slice A n c, .slice A' n c'] w fun e w' => e = .returned (.bool true) ∧ ∃ q, w' = w.drewN q := by
  subst hn
  have h := same_any w A A' l l c c' B B' hA hB hm
  rwa [decide_eq_true rfl] at h
def want2 : List Int := [186, 120, 22, 191, 143, 1, 207, 234, 65, 65, 64, 222, 93, 174, 34, 35, 176, 3, 97, 163, 150, 23, 122, 156, 180, 16, 255, 97, 242, 0, 21, 173]
theorem abc2 : sum2 [97, 98, 99] = want2 := by decide +kernel
theorem k20 : gt k2L 0 = 1116352408 := by decide +kernel
theorem Kept.al {w w' : World} {B : Nat} (h : Kept B (fun _ => False) w w') (hB : B ≤ w'.heap.size) (o : Obj) : Kept B (fun _ => False) w (w'.alloc o) := h.alloc o hB
theorem Kept.bl {w w' w2 : World} {B : Nat} (h : Kept B (fun _ => False) w w') (hB : B ≤ w'.heap.size) (h2 : Below w'.heap.size w' w2) : Kept B (fun _ => False) w w2 := h.trans (S' := fun _ => False) (Kept.of_below h2) hB (fun _ _ h => h)
theorem Kept.wr {w w' w2 : World} {B p : Nat} {a : Option Nat} (h : Kept B (fun _ => False) w w') (hB : B ≤ w'.heap.size) (hp : B ≤ p) (ha : ∀ g, a = some g → B ≤ g) (h2 : Kept w'.heap.size (fun q => q = p ∨ a = some q) w' w2) : Kept B (fun _ => False) w w2 :=
  h.trans (S' := fun q => q = p ∨ a = some q) h2 hB (fun q hq h => h.elim (fun e => absurd hq (by omega)) (fun e => absurd hq (by have := ha q e; omega)))
theorem OwnOr.ge {n B : Nat} {a a' : Option Nat} (h : OwnOr n a a') (hB : B ≤ n) (ha : ∀ g, a = some g → B ≤ g) : ∀ g, a' = some g → B ≤ g := fun g hg => by
  rcases h with rfl | ⟨g', h1, h2⟩
  · exact ha g hg
  · rw [h1] at hg; cases hg; omega
set_option maxRecDepth 100000 in
set_option maxHeartbeats 4000000 in
theorem awake02_any (w : World) (hT : S2Tb w) :
    Calls Tryd.prog 14 #[] w fun e w' => e = .returned (.bool true) ∧ Below w.heap.size w w' := by
  have kc := fun (w : World) (C : Array Value) (n c : Nat) => Lib.run_convert_bytes_const (P := Tryd.prog) w 22 5 C n c Tryd.underlying22 Tryd.underlying5
  have hTl := hT.lt
  go_enter Tryd.func14, Tryd.ntmps14
  go_wp2_with fail
  have hNb := Rd.marked2 w 5 .u8 [97, 98, 99] (3, 4)
  have hKb : Kept w.heap.size (fun _ => False) w (w.alloc (.cells (U .u8 [97, 98, 99]) 5 (3, 4))) := (Kept.refl w.heap.size (fun _ => False) w).alloc _ (Nat.le_refl _)
  have hsb : (w.alloc (.cells (U .u8 [97, 98, 99]) 5 (3, 4))).heap.size = w.heap.size + 1 := by simp
  have hTb := hT.kept hKb (Nat.le_refl _) (fun h => h) (fun h => h)
  change Calls _ _ _ (w.alloc (.cells (U .u8 [97, 98, 99]) 5 (3, 4))) _
  generalize w.alloc (.cells (U .u8 [97, 98, 99]) 5 (3, 4)) = wb at hNb hKb hsb hTb ⊢
  have hBabc : Bys [97, 98, 99] := by unfold Bys B8; decide
  (with_reducible refine (one2_any [97, 98, 99] want2 (some ⟨w.heap.size, 0, none⟩) 3 3 (w.heap.size + 1) wb abc2 hNb (by omega) rfl (by omega) hBabc hTb).mono ?_)
  rintro e w1 ⟨A1, c1, rfl, hF1, hb1⟩
  have hs1 := hb1.size
  have hK1 := hKb.bl (by omega) hb1
  have hT1 := hT.kept hK1 (Nat.le_refl _) (fun h => h) (fun h => h)
  go_wp2_with fail
  (with_reducible refine (new2_any w1 hT1).mono ?_)
  rintro e w2 ⟨rfl, hH2, hb2, hs2⟩
  have L2 := (Kept.refl w1.heap.size (fun _ => False) w1).bl (Nat.le_refl _) hb2
  have hHH := Lib.hid hH2
  have HS2 := Lib.hid hs2
  clear hNb hKb hTb hb1 hb2 hH2 hs2
  go_wp2_with fail
  have hs2 := HS2.out
  have hN3 := Rd.marked2 w2 5 .u8 [97] (1, 2)
  have L3 := L2.al (by omega) (.cells (U .u8 [97]) 5 (1, 2))
  have hH3 := hHH.out.alloc (.cells (U .u8 [97]) 5 (1, 2))
  have hs3 : (w2.alloc (.cells (U .u8 [97]) 5 (1, 2))).heap.size = w2.heap.size + 1 := by simp
  have hT3 := hT1.kept L3 (Nat.le_refl _) (fun h => h) (fun h => h)
  change Calls _ _ _ (w2.alloc (.cells (U .u8 [97]) 5 (1, 2))) _
  generalize w2.alloc (.cells (U .u8 [97]) 5 (1, 2)) = w3 at hN3 L3 hH3 hs3 hT3 ⊢
  have hw4 := write_any [] [97] (some ⟨w2.heap.size, 0, none⟩) 1 1 w1.heap.size (w2.heap.size + 1) 0 none w3 hH3 (by omega) hN3 rfl (by decide) (by unfold Bys B8; decide) hT3 ⟨by omega, by simp⟩ ⟨by omega, by simp⟩
  (with_reducible refine hw4.mono ?_)
  rintro e w4 ⟨rfl, a4, ho4, hH4, hk4⟩
  have hs4 := hk4.size
  have L4 := L3.wr (by omega) (Nat.le_refl _) (by simp) hk4
  have ha4 := ho4.ge (B := w1.heap.size) (by omega) (by simp)
  have HS4 : Hid (w1.heap.size ≤ w4.heap.size) := Lib.hid (by omega)
  clear hw4 hk4 ho4 hN3 L2 L3 hH3 hT3 hHH hs4 hs3 hs2 HS2
  go_wp2_with fail
  have hs4 := HS4.out
  have hN5 := Rd.marked2 w4 5 .u8 [98, 99] (2, 3)
  have L5 := L4.al (by omega) (.cells (U .u8 [98, 99]) 5 (2, 3))
  have hH5 := hH4.alloc (.cells (U .u8 [98, 99]) 5 (2, 3))
  have hs5 : (w4.alloc (.cells (U .u8 [98, 99]) 5 (2, 3))).heap.size = w4.heap.size + 1 := by simp
  have hT5 := hT1.kept L5 (Nat.le_refl _) (fun h => h) (fun h => h)
  change Calls _ _ _ (w4.alloc (.cells (U .u8 [98, 99]) 5 (2, 3))) _
  generalize w4.alloc (.cells (U .u8 [98, 99]) 5 (2, 3)) = w5 at hN5 L5 hH5 hs5 hT5 ⊢
  have hw6 := write_any [97] [98, 99] (some ⟨w4.heap.size, 0, none⟩) 2 2 w1.heap.size (w4.heap.size + 1) 1 a4 w5 hH5 (by omega) hN5 rfl (by decide) hBabc hT5 ⟨by omega, fun h => by have := ha4 _ h; omega⟩ ⟨by omega, fun h => by have := ha4 _ h; omega⟩
  (with_reducible refine hw6.mono ?_)
  rintro e w6 ⟨rfl, a6, ho6, hH6, hk6⟩
  have hs6 := hk6.size
  have L6 := L5.wr (by omega) (Nat.le_refl _) ha4 hk6
  have ha6 := ho6.ge (B := w1.heap.size) (by omega) ha4
  have HS6 : Hid (w1.heap.size ≤ w6.heap.size) := Lib.hid (by omega)
  clear hw6 hk6 ho6 hN5 L4 L5 hH4 hH5 hT5 hs6 hs5 hs4 HS4
  go_wp2_with fail
  have hs6 := HS6.out
  have hN7 := Rd.of_arr (B := w6.heap.size + 1) (Arr.new w6 5 .u8 want2) (by omega)
  have L7 := L6.al (by omega) (.cells (U .u8 want2) 5)
  have hH7 := hH6.alloc (.cells (U .u8 want2) 5)
  have hs7 : (w6.alloc (.cells (U .u8 want2) 5)).heap.size = w6.heap.size + 1 := by simp
  change Calls _ _ _ (w6.alloc (.cells (U .u8 want2) 5)) _
  generalize w6.alloc (.cells (U .u8 want2) 5) = w7 at hN7 L7 hH7 hs7 ⊢
  have hF7 := hF1.kept L7 (Nat.le_refl _) (fun _ _ h => h)
  (with_reducible refine (same2_true w7 A1 (some ⟨w6.heap.size, 0, none⟩) want2 32 c1 32 w7.heap.size (w6.heap.size + 1) hF7.rd hN7 rfl (by decide)).mono ?_)
  rintro e w7' ⟨rfl, q, rfl⟩
  have L8 := L7.drewN q
  have hH8 := hH7.drewN q
  have hN8 := hN7.drewN q
  have hs8 : (w7.drewN q).heap.size = w6.heap.size + 1 := by simp [hs7]
  have hT8 := hT1.kept L8 (Nat.le_refl _) (fun h => h) (fun h => h)
  generalize w7.drewN q = w8 at L8 hH8 hN8 hs8 hT8 ⊢
  have HS8 := Lib.hid hs8
  clear hF7 hN7 hH7 L7 hs7 hH6 L6 hs8
  go_wp2_with fail
  have hs8 := HS8.out
  (with_reducible refine (sum2_any [97, 98, 99] want2 w1.heap.size a6 w8 abc2 (by simpa using hH8) (by decide) hBabc hT8).mono ?_)
  rintro e w9 ⟨A9, c9, rfl, hF9, hb9⟩
  have L9 := L8.bl (by omega) hb9
  have hN9 := hN8.below (hb9.mono (by omega))
  have hs9 := hb9.size
  clear hs8
  go_wp2_with fail
  (with_reducible refine (same2_true w9 A9 (some ⟨w6.heap.size, 0, none⟩) want2 32 c9 32 w9.heap.size (w6.heap.size + 1) hF9.rd hN9 rfl (by decide)).mono ?_)
  rintro e w9' ⟨rfl, q9, rfl⟩
  have L10 := L9.drewN q9
  have hT10 := hT1.kept L10 (Nat.le_refl _) (fun h => h) (fun h => h)
  generalize w9.drewN q9 = w10 at L10 hT10 ⊢
  clear hF9 hN9 hN8 hH8 L9 L8 hb9
  go_wp2_with fail
  have hTk : Tab w10 0 .u32 k2L := And.left hT10
  (with_reducible refine (kk2_any 0 w10 hTk).mono ?_)
  rintro e w11 ⟨rfl, rfl⟩
  have hgk : (gt k2L 0 == (1116352408 : Int)) = true := by rw [k20]; rfl
  go_wp2_with fail
  go_ret
  exact ⟨rfl, (hK1.trans (S' := fun _ => False) L10 (by omega) (fun _ _ h => h)).below⟩
end Go.Proofs.YteidkdpfjponfaaDoor
