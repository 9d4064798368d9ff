/- sha5.One, and what is asked of the sum before a statement, walked. Conditions: bytes, at most 100000000; the tables. -/
import Derived.Test.YtabpbnkipdjnlaaDoorS5G
import Derived.Test.YtabpbnkipdjnlaaDoorShA
import Derived.Lib.SlBytesConst
import Derived.Lib.SmallJoins
namespace Go.Proofs.YtabpbnkipdjnlaaDoor
open Go.RowKit
set_option linter.unusedVariables false
set_option linter.unusedSimpArgs false

theorem Rd.marked5 (w : World) (T : Nat) (k : IntKind) (l : List Int) (fr : Nat × Nat) : Rd (w.alloc (.cells (U k l) T fr)) (w.heap.size + 1) k (some ⟨w.heap.size, 0, none⟩) l := fun hn =>
  ⟨_, rfl, Nat.lt_succ_self _, fun i hi => by rw [plus_head, World.cell?_alloc_mark w (U k l) T fr i, U_get k l i hi]⟩
theorem same5_true (w : World) (A A' : Option Addr) (l : List Int) (n c c' B B' : Nat) (hA : Rd w B .u8 A l) (hB : Rd w B' .u8 A' l) (hn : l.length = n) (hm : n ≤ 9223372036854775807) :
    Calls Tryd.prog 24 #[.slice A n c, .slice A' n c'] w fun e w' => e = .returned (.bool true) ∧ ∃ q, w' = w.drewN q := by
  subst hn
  have h := same_any w A A' l l c c' B B' hA hB hm
  rwa [decide_eq_true rfl] at h
theorem abc8 : (sum5 [97, 98, 99]).take 8 = [221, 175, 53, 161, 147, 97, 122, 186] := by decide +kernel
theorem k50 : gt k5L 0 = 4794697086780616226 := by decide +kernel
theorem S5Tab.kept {w w' : World} {B : Nat} {S : Nat → Prop} (h : S5Tab w) (hk : Kept B S w w') (h1 : 2 < B) (h2 : 3 < B) (s1 : ¬ S 2) (s2 : ¬ S 3) : S5Tab w' := ⟨h.1.kept hk h1 s1, h.2.kept hk h2 s2⟩
theorem S5Tab.below {w w' : World} {B : Nat} (h : S5Tab w) (hk : Below B w w') (h1 : 2 < B) (h2 : 3 < B) : S5Tab w' := h.kept (Kept.of_below (S := fun _ => False) hk) h1 h2 (fun h => h) (fun h => h)

theorem one5_any (l : List Int) (A : Option Addr) (c B0 n : Nat) (w : World) (hr : Rd w B0 .u8 A l) (hB0 : B0 ≤ w.heap.size) (hl : l.length ≤ 100000000) (hn : l.length = n) (hc : n ≤ c) (hby : Bys l) (ht : S5Tab w)
    (hz : 2 < w.heap.size) (hz1 : 3 < w.heap.size) :
    Calls Tryd.prog 30 #[.slice A n c] w (PartPost w l) := by
  go_enter Tryd.func30, Tryd.ntmps30
  go_wp2_with fail
  have hP := parts1 (w := w) (B := w.heap.size) (T := 36) (Nat.le_refl _) ((hr.more hB0).part hn hc)
  have hb : Below w.heap.size w (w.alloc (.cells #[.slice A n c] 36)) := ((Kept.refl w.heap.size (fun _ => False) w).alloc _ (Nat.le_refl _)).below
  have hs : (w.alloc (.cells #[.slice A n c] 36)).heap.size = w.heap.size + 1 := by simp
  have hT := ht.below hb hz hz1
  change Calls _ _ _ (w.alloc (.cells #[.slice A n c] 36)) _
  generalize w.alloc (.cells #[.slice A n c] 36) = w1 at hP hb hs hT ⊢
  (with_reducible refine (parts_any w1 _ 1 (w.heap.size + 1) 1 [l] l (by simp) hP rfl (by omega) (by omega) (by omega) hl hby hT (by omega) (by omega)).mono ?_)
  rintro e w2 ⟨A2, c2, rfl, hF, hb2⟩
  have hX := (Kept.of_below (S := fun _ => False) hb).trans (S' := fun _ => False) (Kept.of_below hb2) (by omega) (fun _ _ h => h)
  have hF2 := hF.low (b' := w.heap.size) (by omega)
  go_wp2_with fail
  go_ret
  exact ⟨A2, c2, rfl, hF2, hX.below⟩

theorem awake03_any (w : World) (ht : S5Tab w) :
    Calls Tryd.prog 29 #[] w fun e w' => e = .returned (.bool true) ∧ Below w.heap.size w w' := by
  have hz := World.block_lt_of_cell? w _ (ht.1 0 (by decide))
  have hz0 := World.block_lt_of_cell? w _ (ht.2 0 (by decide))
  have hz2 : 2 < w.heap.size := hz
  have hz3 : 3 < w.heap.size := hz0
  have kc := fun (w : World) (C : Array Value) (n c : Nat) => Lib.run_convert_bytes_const (P := Tryd.prog) w 36 5 C n c Tryd.underlying36 Tryd.underlying5
  have kc2 : ∀ (w : World) (o : Obj) (C : Array Value) (n c : Nat), (convert 36 36 (.slice (some ⟨w.heap.size + 1, 0, none⟩) n c)).run Tryd.prog ((w.alloc o).alloc (.cells C 5)) = .ok (.slice (some ⟨w.heap.size + 1, 0, none⟩) n c) ((w.alloc o).alloc (.cells C 5 (C.size, C.size + 1))) := fun w o C n c => by
    have h := kc (w.alloc o) C n c
    rwa [show (w.alloc o).heap.size = w.heap.size + 1 by simp] at h
  clear hz hz0
  go_enter Tryd.func29, Tryd.ntmps29
  go_wp2_with fail
  have hNb := Rd.marked5 w 5 .u8 [97, 98, 99] (3, 4)
  have hKb : Below w.heap.size w (w.alloc (.cells (U .u8 [97, 98, 99]) 5 (3, 4))) := ((Kept.refl w.heap.size (fun _ => False) w).alloc _ (Nat.le_refl _)).below
  have hsb : (w.alloc (.cells (U .u8 [97, 98, 99]) 5 (3, 4))).heap.size = w.heap.size + 1 := by simp
  have hTb := ht.below hKb (by omega) (by omega)
  change Calls _ _ _ (w.alloc (.cells (U .u8 [97, 98, 99]) 5 (3, 4))) _
  generalize w.alloc (.cells (U .u8 [97, 98, 99]) 5 (3, 4)) = wb at hNb hKb hsb hTb ⊢
  have hBabc : Bys [97, 98, 99] := by unfold Bys B8; decide
  (with_reducible refine (one5_any [97, 98, 99] (some ⟨w.heap.size, 0, none⟩) 3 (w.heap.size + 1) 3 wb hNb (by omega) (by decide) rfl (by omega) hBabc hTb (by omega) (by omega)).mono ?_)
  rintro e w1 ⟨A1, c1, rfl, hF1, hb1⟩
  have hc1 := hF1.cap
  rw [sum5_len] at hc1
  have hc1I : (8 : Int) ≤ (c1 : Int) := by omega
  have hT1 := hTb.below hb1 (by omega) (by omega)
  have hs1 := hb1.size
  go_wp2_with fail
  have hR8 : Rd w1 w1.heap.size .u8 A1 [221, 175, 53, 161, 147, 97, 122, 186] := by
    have h := hF1.rd.cut 0 8 c1 (by rw [sum5_len]; omega) (by omega)
    rw [List.drop_zero, abc8] at h
    have e : (if c1 = 0 then A1 else A1.map (·.add 0)) = A1 := by
      split
      · rfl
      · cases A1 with
        | none => rfl
        | some a => cases a; simp [Addr.add]
    rwa [e] at h
  have hN3 := Rd.of_arr (B := w1.heap.size + 1) (Arr.new w1 5 .u8 [221, 175, 53, 161, 147, 97, 122, 186]) (by omega)
  have hK3 : Below w1.heap.size w1 (w1.alloc (.cells (U .u8 [221, 175, 53, 161, 147, 97, 122, 186]) 5)) := ((Kept.refl w1.heap.size (fun _ => False) w1).alloc _ (Nat.le_refl _)).below
  have hs3 : (w1.alloc (.cells (U .u8 [221, 175, 53, 161, 147, 97, 122, 186]) 5)).heap.size = w1.heap.size + 1 := by simp
  have hR3 := hR8.alloc (Nat.le_refl _) (.cells (U .u8 [221, 175, 53, 161, 147, 97, 122, 186]) 5)
  change Calls _ _ _ (w1.alloc (.cells (U .u8 [221, 175, 53, 161, 147, 97, 122, 186]) 5)) _
  generalize w1.alloc (.cells (U .u8 [221, 175, 53, 161, 147, 97, 122, 186]) 5) = w3 at hN3 hK3 hs3 hR3 ⊢
  (with_reducible refine (same5_true w3 A1 (some ⟨w1.heap.size, 0, none⟩) [221, 175, 53, 161, 147, 97, 122, 186] 8 c1 8 w1.heap.size (w1.heap.size + 1) hR3 hN3 rfl (by decide)).mono ?_)
  rintro e w3' ⟨rfl, q, rfl⟩
  have hK4 : Below w1.heap.size w1 (w3.drewN q) := ((Kept.of_below (S := fun _ => False) hK3).drewN q).below
  have hs4 : (w3.drewN q).heap.size = w1.heap.size + 1 := by simp [hs3]
  have hF4 := hF1.below hK4 (Nat.le_refl _)
  have hT4 := hT1.below hK4 (by omega) (by omega)
  generalize w3.drewN q = w4 at hK4 hF4 hT4 hs4 ⊢
  have HS4 := Lib.hid hs4
  clear hN3 hK3 hs3 hR3 hR8 hF1 hs4
  go_wp2_with fail
  have hs4 := HS4.out
  have hMa := Rd.marked5 w4 5 .u8 [97] (1, 2)
  have hMb := Rd.marked5 (w4.alloc (.cells (U .u8 [97]) 5 (1, 2))) 5 .u8 [98, 99] (2, 3)
  have hMa2 := hMa.alloc (by simp) (.cells (U .u8 [98, 99]) 5 (2, 3))
  have hK5 : Below w4.heap.size w4 (((w4.alloc (.cells (U .u8 [97]) 5 (1, 2))).alloc (.cells (U .u8 [98, 99]) 5 (2, 3))).alloc (.cells #[.slice (some ⟨w4.heap.size, 0, none⟩) 1 1, .slice (some ⟨w4.heap.size + 1, 0, none⟩) 2 2] 36)) :=
    ((((Kept.refl w4.heap.size (fun _ => False) w4).alloc _ (Nat.le_refl _)).alloc _ (by simp)).alloc _ (by simp; omega)).below
  have hs5 : (((w4.alloc (.cells (U .u8 [97]) 5 (1, 2))).alloc (.cells (U .u8 [98, 99]) 5 (2, 3))).alloc (.cells #[.slice (some ⟨w4.heap.size, 0, none⟩) 1 1, .slice (some ⟨w4.heap.size + 1, 0, none⟩) 2 2] 36)).heap.size = w4.heap.size + 3 := by simp
  have hsa : (w4.alloc (.cells (U .u8 [97]) 5 (1, 2))).heap.size = w4.heap.size + 1 := by simp
  have hsb2 : ((w4.alloc (.cells (U .u8 [97]) 5 (1, 2))).alloc (.cells (U .u8 [98, 99]) 5 (2, 3))).heap.size = w4.heap.size + 2 := by simp
  rw [hsa] at hMb
  have hP := parts2 (w := (w4.alloc (.cells (U .u8 [97]) 5 (1, 2))).alloc (.cells (U .u8 [98, 99]) 5 (2, 3))) (B := w4.heap.size + 2) (T := 36) (by omega) ((hMa2.more (by omega)).part (n := 1) (c := 1) rfl (Nat.le_refl _)) (hMb.part (n := 2) (c := 2) rfl (Nat.le_refl _))
  rw [hsb2] at hP
  change Calls _ _ _ (((w4.alloc (.cells (U .u8 [97]) 5 (1, 2))).alloc (.cells (U .u8 [98, 99]) 5 (2, 3))).alloc (.cells #[.slice (some ⟨w4.heap.size, 0, none⟩) 1 1, .slice (some ⟨w4.heap.size + 1, 0, none⟩) 2 2] 36)) _
  generalize ((w4.alloc (.cells (U .u8 [97]) 5 (1, 2))).alloc (.cells (U .u8 [98, 99]) 5 (2, 3))).alloc (.cells #[.slice (some ⟨w4.heap.size, 0, none⟩) 1 1, .slice (some ⟨w4.heap.size + 1, 0, none⟩) 2 2] 36) = w5 at hK5 hs5 hP ⊢
  have hF5 := hF4.below hK5 (Nat.le_refl _)
  have hT5 := hT4.below hK5 (by omega) (by omega)
  clear hMa hMb hMa2 hsa hsb2 hF4
  (with_reducible refine (parts_any w5 _ 2 (w4.heap.size + 2 + 1) 2 [[97], [98, 99]] [97, 98, 99] rfl hP rfl (by omega) (by omega) (by omega) (by decide) hBabc hT5 (by omega) (by omega)).mono ?_)
  rintro e w6 ⟨A6, c6, rfl, hF6, hb6⟩
  clear hs4
  have hs6 := hb6.size
  have hF66 := hF5.below hb6 (Nat.le_refl _)
  go_wp2_with fail
  (with_reducible refine (same5_true w6 A6 A1 (sum5 [97, 98, 99]) 64 c6 c1 w6.heap.size w6.heap.size hF6.rd hF66.rd (sum5_len _) (by decide)).mono ?_)
  rintro e w6' ⟨rfl, q6, rfl⟩
  have hs4 := HS4.out
  have hb7 : Below w5.heap.size w5 (w6.drewN q6) := ((Kept.of_below (S := fun _ => False) hb6).drewN q6).below
  have hT7 := hT5.below hb7 (by omega) (by omega)
  have hX : Below w.heap.size w (w6.drewN q6) := by
    have k1 := Kept.of_below (S := fun _ => False) hKb
    have k2 := k1.trans (S' := fun _ => False) (Kept.of_below hb1) (by omega) (fun _ _ h => h)
    have k4 := k2.trans (S' := fun _ => False) (Kept.of_below hK4) (by omega) (fun _ _ h => h)
    have k5 := k4.trans (S' := fun _ => False) (Kept.of_below hK5) (by omega) (fun _ _ h => h)
    exact (k5.trans (S' := fun _ => False) (Kept.of_below hb7) (by omega) (fun _ _ h => h)).below
  generalize w6.drewN q6 = w7 at hb7 hT7 hX ⊢
  clear hs4 hF6 hF66 hF5 hP hs5 hK5
  go_wp2_with fail
  have hTk : Tab w7 2 .u64 k5L := And.left hT7
  (with_reducible refine (kk_any 0 w7 hTk).mono ?_)
  rintro e w8 ⟨rfl, hb8⟩
  have hgk : (gt k5L 0 == (4794697086780616226 : Int)) = true := by rw [k50]; rfl
  go_wp2_with fail
  go_ret
  exact ⟨rfl, hX⟩

end Go.Proofs.YtabpbnkipdjnlaaDoor
