/- What a text gives, as a row without an end: positions, and what is read from one on. Conditions: none of the program. -/
import Derived.Test.YtfaonieaagepjaaDoorShE
import Derived.Test.YtfaonieaagepjaaDoorZA
namespace Go.Proofs.YtfaonieaagepjaaDoor
open Go.RowKit
set_option maxRecDepth 100000
set_option linter.unusedVariables false

def iterP (S : List Int) : Nat → List Int
  | 0 => S
  | q + 1 => permute (iterP S q)
theorem iterP_len {S : List Int} (h : S.length = 25) (q : Nat) : (iterP S q).length = 25 := by
  induction q with
  | zero => exact h
  | succ q ih => rw [iterP, permute_len, ih]
theorem iterP_W {S : List Int} (h : Ws S) (q : Nat) : Ws (iterP S q) := by
  induction q with
  | zero => exact h
  | succ q ih => exact permute_W ih
/-- The i-th byte. -/
def sb (S : List Int) (i : Nat) : Int := gt (giveL (iterP S (i / 136))) (i % 136)
/-- n bytes from p on. -/
def seg (S : List Int) (p n : Nat) : List Int := (List.range n).map fun i => sb S (p + i)
theorem seg_len (S : List Int) (p n : Nat) : (seg S p n).length = n := by simp [seg]
theorem gt_seg (S : List Int) (p n i : Nat) (h : i < n) : gt (seg S p n) i = sb S (p + i) := by
  simp [seg, gt, h]
theorem seg_zero (S : List Int) (p : Nat) : seg S p 0 = [] := rfl
theorem seg_append (S : List Int) (p n m : Nat) : seg S p n ++ seg S (p + n) m = seg S p (n + m) := by
  apply ext_gt _ _ (by simp [seg_len])
  intro i hi
  simp only [List.length_append, seg_len] at hi
  rw [gt_seg _ _ _ _ hi]
  rcases Nat.lt_or_ge i n with h | h
  · rw [gt_append_left _ _ _ (by rw [seg_len]; exact h), gt_seg _ _ _ _ h]
  · rw [gt_append_right _ _ _ (by rw [seg_len]; exact h), seg_len, gt_seg _ _ _ _ (by omega)]
    congr 1; omega
theorem seg_sub (S : List Int) (p n i j : Nat) (h : i + j ≤ n) : ((seg S p n).take (i + j)).drop i = seg S (p + i) j := by
  apply ext_gt _ _ (by simp [seg_len]; omega)
  intro k hk
  simp only [List.length_drop, List.length_take, seg_len] at hk
  rw [gt_drop, gt_take _ _ _ (by omega), gt_seg _ _ _ _ (by omega), gt_seg _ _ _ _ (by omega)]
  congr 1; omega
/-- Where a reader stands. -/
def At (S : List Int) (p : Nat) (s rest : List Int) : Prop := ∃ q r, s = iterP S q ∧ rest = (giveL s).drop r ∧ r ≤ 136 ∧ p = 136 * q + r
theorem At.start (S : List Int) : At S 0 S (giveL S) := ⟨0, 0, rfl, rfl, by omega, rfl⟩
theorem At.len {S s rest : List Int} {p : Nat} (h : At S p s rest) : rest.length ≤ 136 := by
  obtain ⟨q, r, rfl, rfl, hr, rfl⟩ := h
  rw [List.length_drop, giveL_len]; omega
theorem At.slen {S s rest : List Int} {p : Nat} (h : At S p s rest) (hS : S.length = 25) : s.length = 25 := by
  obtain ⟨q, r, rfl, rfl, hr, rfl⟩ := h
  exact iterP_len hS q
theorem At.sW {S s rest : List Int} {p : Nat} (h : At S p s rest) (hS : Ws S) : Ws s := by
  obtain ⟨q, r, rfl, rfl, hr, rfl⟩ := h
  exact iterP_W hS q
theorem At.take {S s rest : List Int} {p : Nat} (h : At S p s rest) (k : Nat) (hk : k ≤ rest.length) : rest.take k = seg S p k := by
  obtain ⟨q, r, rfl, rfl, hr, rfl⟩ := h
  rw [List.length_drop, giveL_len] at hk
  apply ext_gt _ _ (by simp [seg_len, giveL_len]; omega)
  intro i hi
  simp only [List.length_take, List.length_drop, giveL_len] at hi
  rw [gt_take _ _ _ (by omega), gt_drop, gt_seg _ _ _ _ (by omega), sb, show (136 * q + r + i) / 136 = q by omega, show (136 * q + r + i) % 136 = r + i by omega]
theorem At.drop {S s rest : List Int} {p : Nat} (h : At S p s rest) (k : Nat) (hk : k ≤ rest.length) : At S (p + k) s (rest.drop k) := by
  obtain ⟨q, r, rfl, rfl, hr, rfl⟩ := h
  rw [List.length_drop, giveL_len] at hk
  exact ⟨q, r + k, rfl, by rw [List.drop_drop], by omega, by omega⟩
theorem At.next {S s rest : List Int} {p : Nat} (h : At S p s rest) (h0 : rest.length = 0) : At S p (permute s) (giveL (permute s)) := by
  obtain ⟨q, r, rfl, rfl, hr, rfl⟩ := h
  rw [List.length_drop, giveL_len] at h0
  exact ⟨q + 1, 0, rfl, rfl, by omega, by omega⟩

/-- A reader in memory: its state, and its rest in block rb. -/
structure Rdr (w : World) (T g rb : Nat) (s rest : List Int) (A : Option Addr) (c : Nat) : Prop where
  two : Two w g T .u64 s (.slice A rest.length c)
  cap : rest.length ≤ c
  rd : Rp w (· = rb) .u8 A rest
  ne : rb ≠ g
  lt : rb < w.heap.size
theorem Rdr.kept {w w' : World} {T g rb B : Nat} {s rest : List Int} {A : Option Addr} {c : Nat} {S : Nat → Prop} (h : Rdr w T g rb s rest A c) (hk : Kept B S w w') (hB : w.heap.size ≤ B) (hg : ¬ S g) (hr : ¬ S rb) : Rdr w' T g rb s rest A c :=
  ⟨h.two.kept hk (by have := h.two.lt; omega) hg, h.cap, h.rd.kept hk (fun q hq => by subst hq; exact ⟨by have := h.lt; omega, hr⟩), h.ne, by have := hk.size; have := h.lt; omega⟩
theorem Rdr.below {w w' : World} {T g rb : Nat} {s rest : List Int} {A : Option Addr} {c : Nat} (h : Rdr w T g rb s rest A c) (hk : Below w.heap.size w w') : Rdr w' T g rb s rest A c :=
  h.kept (S := fun _ => False) (Kept.of_below hk) (Nat.le_refl _) (fun x => x) (fun x => x)

end Go.Proofs.YtfaonieaagepjaaDoor
