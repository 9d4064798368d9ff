/- The text's end, the state behind all blocks, the sum's bytes: in plain Lean. Conditions: none. -/
import Derived.Test.YteidkdpfjponfaaDoorS5A
namespace Go.Proofs.YteidkdpfjponfaaDoor
open Go.RowKit
set_option linter.unusedVariables false
set_option linter.unusedSimpArgs false

/-- How many bytes 0 stand between the byte 128 and the count's 8 bytes. -/
def zn5 (n : Nat) : Nat := (128 - (n + 1 + 16) % 128) % 128 + 8
def zrs (n : Nat) : List Int := List.replicate n 0
theorem zrs_len (n : Nat) : (zrs n).length = n := by simp [zrs]
theorem zrs_B (n : Nat) : Bys (zrs n) := Bys.rep n B8.zero
def text5 (l : List Int) : List Int := l ++ [128] ++ zrs (zn5 l.length) ++ putL (8 * l.length : Nat) 8
theorem text5_len (l : List Int) : (text5 l).length = l.length + 1 + zn5 l.length + 8 := by simp [text5, zrs_len, putL_len]; omega
theorem text5_mod (l : List Int) : (text5 l).length % 128 = 0 := by rw [text5_len]; unfold zn5; omega
theorem text5_B {l : List Int} (h : Bys l) : Bys (text5 l) := ((h.append (Bys.one (by constructor <;> decide))).append (zrs_B _)).append (putL_B _ _)
/-- The state behind i blocks. -/
def tS (T : List Int) : Nat → List Int
  | 0 => f5L
  | i + 1 => turn5 (tS T i) ((T.drop (128 * i)).take 128)
theorem tS_len (T : List Int) (i : Nat) : (tS T i).length = 8 := by
  induction i with
  | zero => exact f5_len
  | succ i ih => rw [tS, turn5_len _ ih]
theorem tS_W (T : List Int) (i : Nat) : Ws (tS T i) := by
  induction i with
  | zero => exact f5_W
  | succ i ih => exact turn5_W _ ih
/-- The bytes of the first j words. -/
def outS (s : List Int) : Nat → List Int
  | 0 => []
  | j + 1 => outS s j ++ putL (gt s j) 8
theorem outS_len (s : List Int) (j : Nat) : (outS s j).length = 8 * j := by
  induction j with
  | zero => rfl
  | succ j ih => rw [outS, List.length_append, ih, putL_len]; omega
theorem outS_B (s : List Int) (j : Nat) : Bys (outS s j) := by
  induction j with
  | zero => exact Bys.nil
  | succ j ih => exact ih.append (putL_B _ _)
def sum5 (l : List Int) : List Int := outS (tS (text5 l) ((text5 l).length / 128)) 8
theorem sum5_len (l : List Int) : (sum5 l).length = 64 := outS_len _ _
theorem sum5_B (l : List Int) : Bys (sum5 l) := outS_B _ _

/-! ### Three parts of a literal, in either order made -/
theorem Rd.part {w : World} {B c n : Nat} {A : Option Addr} {l : List Int} (h : Rd w B .u8 A l) (hn : l.length = n) (hc : n ≤ c) : IsPart w B (.slice A n c) l := ⟨A, c, by rw [hn], h, by rw [hn]; exact hc⟩
theorem parts3 {w : World} {B T : Nat} {v0 v1 v2 : Value} {l0 l1 l2 : List Int} (hB : B ≤ w.heap.size) (h0 : IsPart w B v0 l0) (h1 : IsPart w B v1 l1) (h2 : IsPart w B v2 l2) :
    Parts (w.alloc (.cells #[v0, v1, v2] T)) (w.heap.size + 1) (some ⟨w.heap.size, 0, none⟩) [l0, l1, l2] :=
  Parts.lit [v0, v1, v2] [l0, l1, l2] hB rfl fun i hi => by
    match i, hi with
    | 0, _ => exact h0
    | 1, _ => exact h1
    | 2, _ => exact h2
    | n + 3, h => exact absurd h (by simp)
theorem parts2 {w : World} {B T : Nat} {v0 v1 : Value} {l0 l1 : List Int} (hB : B ≤ w.heap.size) (h0 : IsPart w B v0 l0) (h1 : IsPart w B v1 l1) :
    Parts (w.alloc (.cells #[v0, v1] T)) (w.heap.size + 1) (some ⟨w.heap.size, 0, none⟩) [l0, l1] :=
  Parts.lit [v0, v1] [l0, l1] hB rfl fun i hi => by
    match i, hi with
    | 0, _ => exact h0
    | 1, _ => exact h1
    | n + 2, h => exact absurd h (by simp)
theorem parts1 {w : World} {B T : Nat} {v0 : Value} {l0 : List Int} (hB : B ≤ w.heap.size) (h0 : IsPart w B v0 l0) :
    Parts (w.alloc (.cells #[v0] T)) (w.heap.size + 1) (some ⟨w.heap.size, 0, none⟩) [l0] :=
  Parts.lit [v0] [l0] hB rfl fun i hi => by
    match i, hi with
    | 0, _ => exact h0
    | n + 1, h => exact absurd h (by simp)
theorem IsPart.below {w w' : World} {B : Nat} {v : Value} {l : List Int} (h : IsPart w B v l) (hk : Below B w w') : IsPart w' B v l := h.keep fun p hp => World.cell?_of_block (hk.block p.block hp)

end Go.Proofs.YteidkdpfjponfaaDoor
