/- sha5.One, and what is asked of the sum before a statement, walked. Conditions: bytes, at most 100000000; the tables. -/
import Derived.Test.YteidkdpfjponfaaDoorS5G
import Derived.Test.YteidkdpfjponfaaDoorZA
import Derived.Lib.SlBytesConst
import Derived.Lib.SmallJoins
namespace Go.Proofs.YteidkdpfjponfaaDoor
open Go.RowKit
set_option linter.unusedVariables false
set_option linter.unusedSimpArgs false

theorem Rd.marked5 (w : World) (T : Nat) (k : IntKind) (l : List Int) (fr : Nat × Nat) : Rd (w.alloc (.cells (U k l) T fr)) (w.heap.size + 1) k (some ⟨w.heap.size, 0, none⟩) l := fun hn =>
  ⟨_, rfl, Nat.lt_succ_self _, fun i hi => by rw [plus_head, World.cell?_alloc_mark w (U k l) T fr i, U_get k l i hi]⟩
theorem same5_true (w : World) (A A' : Option Addr) (l : List Int) (n c c' B B' : Nat) (hA : Rd w B .u8 A l) (hB : Rd w B' .u8 A' l) (hn : l.length = n) (hm : n ≤ 9223372036854775807) :
    Calls Tryd.prog 15 #[.slice A n c, .slice A' n c'] w fun e w' => e = .returned (.bool true) ∧ ∃ q, w' = w.drewN q := by
  subst hn
  have h := same_any w A A' l l c c' B B' hA hB hm
  rwa [decide_eq_true rfl] at h
theorem abc8 : (sum5 [97, 98, 99]).take 8 = [221, 175, 53, 161, 147, 97, 122, 186] := by decide +kernel
theorem k50 : gt k5L 0 = 4794697086780616226 := by decide +kernel
theorem S5Tab.kept {w w' : World} {B : Nat} {S : Nat → Prop} (h : S5Tab w) (hk : Kept B S w w') (h1 : 3 < B) (h2 : 2 < B) (s1 : ¬ S 3) (s2 : ¬ S 2) : S5Tab w' := ⟨h.1.kept hk h1 s1, h.2.kept hk h2 s2⟩
theorem S5Tab.below {w w' : World} {B : Nat} (h : S5Tab w) (hk : Below B w w') (h1 : 3 < B) (h2 : 2 < B) : S5Tab w' := h.kept (Kept.of_below (S := fun _ => False) hk) h1 h2 (fun h => h) (fun h => h)

theorem one5_any (l : List Int) (A : Option Addr) (c B0 n : Nat) (w : World) (hr : Rd w B0 .u8 A l) (hB0 : B0 ≤ w.heap.size) (hl : l.length ≤ 100000000) (hn : l.length = n) (hc : n ≤ c) (hby : Bys l) (ht : S5Tab w)
    (hz : 3 < w.heap.size) (hz1 : 2 < w.heap.size) :
    Calls Tryd.prog 34 #[.slice A n c] w (PartPost w l) := by
  go_enter Tryd.func34, Tryd.ntmps34
  go_wp2_with fail
  have hP := parts1 (w := w) (B := w.heap.size) (T := 22) (Nat.le_refl _) ((hr.more hB0).part hn hc)
  have hb : Below w.heap.size w (w.alloc (.cells #[.slice A n c] 22)) := ((Kept.refl w.heap.size (fun _ => False) w).alloc _ (Nat.le_refl _)).below
  have hs : (w.alloc (.cells #[.slice A n c] 22)).heap.size = w.heap.size + 1 := by simp
  have hT := ht.below hb hz hz1
  change Calls _ _ _ (w.alloc (.cells #[.slice A n c] 22)) _
  generalize w.alloc (.cells #[.slice A n c] 22) = w1 at hP hb hs hT ⊢
  (with_reducible refine (parts_any w1 _ 1 (w.heap.size + 1) 1 [l] l (by simp) hP rfl (by omega) (by omega) (by omega) hl hby hT (by omega) (by omega)).mono ?_)
  rintro e w2 ⟨A2, c2, rfl, hF, hb2⟩
  have hX := (Kept.of_below (S := fun _ => False) hb).trans (S' := fun _ => False) (Kept.of_below hb2) (by omega) (fun _ _ h => h)
  have hF2 := hF.low (b' := w.heap.size) (by omega)
  go_wp2_with fail
  go_ret
  exact ⟨A2, c2, rfl, hF2, hX.below⟩

end Go.Proofs.YteidkdpfjponfaaDoor
