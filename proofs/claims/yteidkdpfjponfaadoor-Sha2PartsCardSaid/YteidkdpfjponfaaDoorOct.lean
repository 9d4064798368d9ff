/- octet.Put, octet.Get. Conditions: at most 8 bytes. -/
import Derived.Test.YteidkdpfjponfaaDoorCat
import Derived.Test.YteidkdpfjponfaaDoorBits
namespace Go.Proofs.YteidkdpfjponfaaDoor
open Go.RowKit
set_option linter.unusedVariables false
set_option linter.unusedSimpArgs false

/-! ### A number as bytes, the greatest first -/
def putL (v : Int) (n : Nat) : List Int := (List.range n).map fun j => v / 2 ^ (8 * (n - 1 - j)) % 256
theorem putL_len (v : Int) (n : Nat) : (putL v n).length = n := by simp [putL]
theorem gt_putL (v : Int) (n j : Nat) (h : j < n) : gt (putL v n) j = v / 2 ^ (8 * (n - 1 - j)) % 256 := by simp [putL, gt, h]
theorem putL_B (v : Int) (n : Nat) : Bys (putL v n) := fun x hx => by
  simp only [putL, List.mem_map, List.mem_range] at hx
  obtain ⟨j, _, rfl⟩ := hx
  exact B8.mod _
def putN (v : Int) (n : Nat) : Nat → List Int
  | 0 => List.replicate n 0
  | i + 1 => st (putN v n i) (n - 1 - i) (v / 2 ^ (8 * i) % 256)
theorem putN_len (v : Int) (n i : Nat) : (putN v n i).length = n := by
  induction i with
  | zero => simp [putN]
  | succ i ih => rw [putN, st_len, ih]
theorem gt_putN (v : Int) (n j : Nat) (hj : j < n) : ∀ i, i ≤ n → gt (putN v n i) j = if n - 1 - j < i then v / 2 ^ (8 * (n - 1 - j)) % 256 else 0
  | 0, _ => by rw [putN, gt_rep _ _ _ hj]; simp
  | i + 1, hi => by
    rw [putN, gt_st _ _ _ _ (by rw [putN_len]; omega), gt_putN v n j hj i (by omega)]
    by_cases h : j = n - 1 - i
    · rw [if_pos h, if_pos (by omega), show n - 1 - j = i by omega]
    · rw [if_neg h]
      by_cases h2 : n - 1 - j < i
      · rw [if_pos h2, if_pos (by omega)]
      · rw [if_neg h2, if_neg (by omega)]
theorem putN_all (v : Int) (n : Nat) : putN v n n = putL v n := by
  apply ext_gt _ _ (by rw [putN_len, putL_len])
  intro j hj
  rw [putN_len] at hj
  rw [gt_putN v n j hj n (Nat.le_refl _), if_pos (by omega), gt_putL _ _ _ hj]

def PutPost (w : World) (v : Int) (n : Nat) (e : Ending) (w' : World) : Prop :=
  ∃ A c, e = .returned (.slice A n c) ∧ Own w' w.heap.size 5 .u8 (.slice A n c) (putL v n) ∧ Below w.heap.size w w'
theorem put_any (v : Int) (n : Nat) (N : Int) (w : World) (hN : N = n) (hn : n ≤ 8) :
    Calls Tryd.prog 40 #[.int .u64 v, .int .i64 N] w (PutPost w v n) := by
  subst hN
  have hnI : (n : Int) ≤ 8 := by omega
  have hmx : (8 : Nat) ≤ maxLen := by decide
  go_enter Tryd.func40, Tryd.ntmps40
  go_wp2_with (refine wpList_make_nums rfl _ _ 22 rfl 5 .u8 1 Tryd.underlying22 inf_u8 .i64 .i64 n n n n rfl rfl rfl rfl (Nat.le_refl _) (by omega) (by omega) ?_; intro w1 hw1)
  have hN1 := Arr.new w 5 .u8 (List.replicate n 0)
  have hK1 := (Kept.refl w.heap.size (fun _ => False) w).alloc (.cells (U .u8 (List.replicate n 0)) 5) (Nat.le_refl _)
  rw [← hw1.out] at hN1 hK1
  obtain ⟨C, hC⟩ : ∃ C, w.heap.size = C := ⟨_, rfl⟩
  rw [hC] at hN1 hK1 ⊢
  have HC := Lib.hid hC
  clear hC hw1
  go_loopg [16] n (fun g s16 wr => ∃ i : Nat, i ≤ n ∧ g = n - i ∧ s16 = .int .i64 i ∧ Arr wr C 5 .u8 (putN v n i) ∧ Kept C (fun _ => False) w wr)
  case atStart => exact ⟨0, Nat.zero_le _, rfl, rfl, hN1, hK1⟩
  case round =>
    clear hN1 hK1
    obtain ⟨i, hi, hg, rfl, hA, hK⟩ := hrel
    have HG := Lib.hid hg
    clear hg
    by_cases hlt : i < n
    · have hltI : (i : Int) < (n : Int) := by omega
      obtain ⟨j, hj⟩ : ∃ j : Nat, (n : Int) - 1 - (i : Int) = (j : Int) := ⟨n - 1 - i, by omega⟩
      have hj2 : j = n - 1 - i := by omega
      have hjn : j < n := by omega
      have hjI : (j : Int) < (n : Int) := by omega
      have hcl := hA.cell j (by rw [putN_len]; omega)
      have hfl := hA.free j
      have HJ := Lib.hid hj2
      clear hj2
      go_wp2_with fail
      go_roundg (n - (i + 1))
      case measure => have := HG.out; omega
      case rel =>
        refine ⟨i + 1, by omega, rfl, by go_num, ?_, hK.set C j _ (.inl (Nat.le_refl _))⟩
        have h := hA.set j (v / 2 ^ (8 * i) % 256)
        rw [putN, ← HJ.out]
        exact h
    · have hltI : ¬ (i : Int) < (n : Int) := by omega
      obtain rfl : i = n := by omega
      rw [putN_all] at hA
      go_wp2_with fail
      go_ret
      unfold PutPost
      rw [HC.out]
      have hO := Own.of_arr (b := C) hA (Nat.le_refl _) (by rw [putL_len]; omega)
      rw [putL_len] at hO
      exact ⟨some ⟨C, 0, none⟩, i, rfl, hO, hK.below⟩

/-! ### The number that bytes are -/
def beN (l : List Int) : Nat → Int
  | 0 => 0
  | j + 1 => beN l j * 256 + gt l j
theorem beN_bd {l : List Int} (h : Bys l) (j : Nat) : 0 ≤ beN l j ∧ beN l j < 256 ^ j := by
  induction j with
  | zero => simp [beN]
  | succ j ih =>
    have := h.gt j
    unfold B8 at this
    rw [beN, Int.pow_succ]
    omega
theorem be_step {l : List Int} (h : Bys l) {j : Nat} (hj : j < 8) {x y : Int} (hx : beN l j = x) (hy : gt l j = y) : bits .or .u64 (IntKind.u64.wrap (x * 256)) y = beN l (j + 1) := by
  have e256 : x * 256 = x * 2 ^ 8 := by rw [show (2 : Int) ^ 8 = 256 by decide]
  rw [e256]
  have hb := beN_bd h (j + 1)
  have hp : ∀ m, m < 8 → (256 : Int) ^ (m + 1) ≤ 18446744073709551616 := by decide
  have h2 := hp j hj
  have hyb := h.gt j
  have hx0 := (beN_bd h j).1
  unfold B8 at hyb
  rw [beN, hx, hy] at hb ⊢
  rw [hy] at hyb
  rw [hx] at hx0
  have hw : IntKind.u64.wrap (x * 2 ^ 8) = x * 2 ^ 8 := by rw [IntKind.wrap_u64]; omega
  have hc : bits .or .u64 (x * 2 ^ 8) y = bits .or .u64 y (x * 2 ^ 8) := by rw [bv_or, bv_or, BitVec.or_comm]
  rw [hw, hc, or_parts y x 8 hyb.1 (by omega) hx0 (by omega)]
  omega
theorem get_any (l : List Int) (A : Option Addr) (c B n : Nat) (w : World) (hr : Rd w B .u8 A l) (hb : Bys l) (hn : l.length = n) (h8 : n ≤ 8) :
    Calls Tryd.prog 47 #[.slice A n c] w fun e w' => e = .returned (.tuple #[.int .u64 (beN l n), .bool true]) ∧ w = w' := by
  have hnI : (n : Int) ≤ 8 := by omega
  go_enter Tryd.func47, Tryd.ntmps47
  go_wp2_with fail
  go_loopg [4, 12] n (fun g s4 s12 wr => w = wr ∧ ∃ i : Nat, i ≤ n ∧ g = n - i ∧ s12 = .int .i64 i ∧ s4 = .int .u64 (beN l i))
  case atStart => exact ⟨rfl, 0, Nat.zero_le _, rfl, rfl, rfl⟩
  case round =>
    obtain ⟨rfl, i, hi, hg, rfl, rfl⟩ := hrel
    have HG := Lib.hid hg
    clear hg
    by_cases hlt : i < n
    · have hltI : (i : Int) < (n : Int) := by omega
      obtain ⟨ad, rfl, _, hc⟩ := hr.at_ (i := i) (by omega)
      obtain ⟨x, hx⟩ : ∃ x, beN l i = x := ⟨_, rfl⟩
      obtain ⟨y, hy⟩ : ∃ y, gt l i = y := ⟨_, rfl⟩
      rw [hx]
      rw [hy] at hc
      have hyb := hb.gt i
      unfold B8 at hyb
      rw [hy] at hyb
      obtain ⟨hy0, hy1⟩ := hyb
      have HX := Lib.hid hx
      have HY := Lib.hid hy
      clear hx hy
      go_wp2_with fail
      go_roundg (n - (i + 1))
      case measure => have := HG.out; omega
      case rel => exact ⟨rfl, i + 1, by omega, rfl, by go_num, by rw [← be_step hb (by omega) HX.out HY.out]⟩
    · have hltI : ¬ (i : Int) < (n : Int) := by omega
      obtain rfl : i = n := by omega
      go_wp2_with fail
      go_ret2
      exact ⟨rfl, rfl⟩

end Go.Proofs.YteidkdpfjponfaaDoor
