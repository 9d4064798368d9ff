/- octet.Xor. Conditions: the slices read as bytes. -/
import Derived.Test.YtigedohalangbaaShD
import Derived.Test.YtigedohalangbaaSl
import Derived.Test.YtigedohalangbaaBits
import Derived.Deep.LoopGhost
import Derived.RegionTactic
import Derived.BigRegion
import Derived.Outline
namespace Go.Proofs.Ytigedohalangbaa
open Go.RowKit
set_option linter.unusedVariables false
set_option linter.unusedSimpArgs false

def xorN (l m : List Int) : Nat → List Int
  | 0 => l
  | j + 1 => st (xorN l m j) j (bits .xor .u8 (gt l j) (gt m j))
theorem xorN_len (l m : List Int) (j : Nat) : (xorN l m j).length = l.length := by
  induction j with
  | zero => rfl
  | succ j ih => rw [xorN, st_len, ih]
theorem gt_xorN (l m : List Int) (i : Nat) (hi : i < l.length) : ∀ j, j ≤ l.length → gt (xorN l m j) i = if i < j then bits .xor .u8 (gt l i) (gt m i) else gt l i
  | 0, _ => by rw [xorN]; simp
  | j + 1, hj => by
    rw [xorN, gt_st _ _ _ _ (by rw [xorN_len]; omega), gt_xorN l m i hi j (by omega)]
    by_cases h : i = j
    · subst h; rw [if_pos rfl, if_pos (by omega)]
    · rw [if_neg h]
      by_cases h2 : i < j
      · rw [if_pos h2, if_pos (by omega)]
      · rw [if_neg h2, if_neg (by omega)]
/-- Byte by byte, exclusive or: as many as both have. -/
def xorL (l m : List Int) : List Int := (List.range (min l.length m.length)).map fun i => bits .xor .u8 (gt l i) (gt m i)
theorem xorL_len (l m : List Int) : (xorL l m).length = min l.length m.length := by simp [xorL]
theorem gt_xorL (l m : List Int) (i : Nat) (h : i < min l.length m.length) : gt (xorL l m) i = bits .xor .u8 (gt l i) (gt m i) := by
  have h2 : (List.range (min l.length m.length))[i]? = some i := by rw [List.getElem?_range h]
  simp only [xorL, gt, List.getD_eq_getElem?_getD, List.getElem?_map, h2, Option.map_some, Option.getD_some]
theorem xorN_all (l m : List Int) (n : Nat) (hn : min l.length m.length = n) : xorN (l.take n) m n = xorL l m := by
  apply ext_gt _ _ (by rw [xorN_len, xorL_len, List.length_take]; omega)
  intro i hi
  rw [xorN_len, List.length_take] at hi
  rw [gt_xorN _ _ _ (by rw [List.length_take]; omega) n (by rw [List.length_take]; omega), if_pos (by omega), gt_xorL _ _ _ (by omega), gt_take _ _ _ (by omega)]
theorem xor8 (x y : Int) : B8 (bits .xor .u8 x y) := by
  show B8 (IntKind.u8.wrap _)
  rw [IntKind.wrap_u8]
  exact ⟨by omega, by omega⟩
theorem xorL_B (l m : List Int) : Bys (xorL l m) := fun x hx => by
  simp only [xorL, List.mem_map, List.mem_range] at hx
  obtain ⟨i, _, rfl⟩ := hx
  exact xor8 _ _

def XorPost (w : World) (r : List Int) (e : Ending) (w' : World) : Prop := ∃ A c, e = .returned (.slice A r.length c) ∧ Own w' w.heap.size 5 .u8 (.slice A r.length c) r ∧ Below w.heap.size w w'
set_option maxRecDepth 100000 in
set_option maxHeartbeats 1000000 in
theorem xor_any (l m : List Int) (A A' : Option Addr) (n n' c c' : Nat) (w : World) (hA : Rd w w.heap.size .u8 A l) (hB : Rd w w.heap.size .u8 A' m) (hn : l.length = n) (hn' : m.length = n') (hc : n ≤ c) (hnc : A = none → c = 0) (hl : n ≤ 1000000) (hbl : Bys l) (hbm : Bys m) (hm' : n' ≤ 9223372036854775807) :
    Calls Try.prog 34 #[.slice A n c, .slice A' n' c'] w (XorPost w (xorL l m)) := by
  obtain ⟨k, hk⟩ : ∃ k, min n n' = k := ⟨_, rfl⟩
  have hkn : k ≤ n := by omega
  have hkn' : k ≤ n' := by omega
  have hres := xorN_all l m k (by rw [hn, hn']; exact hk)
  have hrl := xorL_len l m
  rw [hn, hn', hk] at hrl
  unfold XorPost
  rw [hrl]
  have hsl : ∀ wx, (Instr.slice 22 (.slice A n c) none (some (.int .i64 (k : Int))) none).run Try.prog wx = .ok (.slice A k c) wx := fun wx =>
    run_slice_0v 22 5 Try.underlying22 (by kernel_rfl) A n c k (by omega) .i64 wx
  have htl : (l.take k).length = k := by rw [List.length_take]; omega
  have hC := clone_any (l.take k) A c w.heap.size w (hA.take_ k) (Nat.le_refl _) (by rw [htl]; omega) hnc
  rw [htl] at hC
  obtain ⟨T, hT⟩ : ∃ T, l.take k = T := ⟨_, rfl⟩
  rw [hT] at hC hres htl
  have HRES := Lib.hid hres
  have HRL := Lib.hid hrl
  have HTL := Lib.hid htl
  have HK := Lib.hid hk
  have HT := Lib.hid hT
  clear hres hrl htl hk hT
  go_enter Try.func34, Try.ntmps34
  go_wp2_with (first | (refine wpList_min_nat (o := ⟨some 12, _, _, _, _, _⟩) rfl _ _ _ rfl n n' k rfl rfl HK.out ?_) | (with_reducible refine hC.mono ?_; rintro e w1 ⟨A1, c1, rfl, hO1, hb1⟩))
  have hK1 := Kept.of_below (S := fun _ => False) hb1
  clear hC hb1
  go_loopg [6, 17] k (fun g s6 s17 wr => ∃ j : Nat, s17 = .int .i64 j ∧ g = k - j ∧ j ≤ k ∧ Own wr w.heap.size 5 .u8 (.slice A1 k c1) (xorN T m j) ∧ Kept w.heap.size (fun _ => False) w wr)
  case atStart => exact ⟨0, rfl, rfl, Nat.zero_le _, hO1, hK1⟩
  case round =>
    clear hO1 hK1
    obtain ⟨j, rfl, hg, hj, hO, hK⟩ := hrel
    have HG := Lib.hid hg
    clear hg
    by_cases hlt : j < k
    · have hltI : (j : Int) < (k : Int) := by omega
      have hltM : (j : Int) < (n' : Int) := by omega
      have hj0 : (0 : Int) ≤ (j : Int) := by omega
      have hlen : (xorN T m j).length = k := by rw [xorN_len, HTL.out]
      obtain ⟨g, rfl, hgl, hg1, hg2, _⟩ := hO.where_ (by omega)
      obtain ⟨b0, rfl, hbb, hcb⟩ := hB.at_ (i := j) (by omega)
      have hcl := hO.cell j (by omega)
      have hfl := hO.free j
      have hcb' : wr.cell? (b0.add j) = some (.int .u8 (gt m j)) := hK.cell hcb (by rw [block_plus]; exact hbb) (fun h => h)
      have hxj : gt (xorN T m j) j = gt T j := by rw [gt_xorN _ _ _ (by rw [HTL.out]; omega) j (by rw [HTL.out]; omega), if_neg (by omega)]
      rw [hxj] at hcl
      obtain ⟨x, hx⟩ : ∃ x, gt T j = x := ⟨_, rfl⟩
      obtain ⟨y, hy⟩ : ∃ y, gt m j = y := ⟨_, rfl⟩
      rw [hx] at hcl
      rw [hy] at hcb'
      obtain ⟨z, hz⟩ : ∃ z, bits .xor .u8 x y = z := ⟨_, rfl⟩
      have hnx : xorN T m (j + 1) = st (xorN T m j) j z := by rw [xorN, hx, hy, hz]
      have hne : g ≠ b0.block := by omega
      have HNX := Lib.hid hnx
      clear hgl hlen hxj hx hy hcb hnx
      go_wp2_with fail
      go_region
      clear hz hcl hfl hcb'
      go_wp2_with fail
      go_roundg (k - (j + 1))
      case measure => have := HG.out; omega
      case rel => exact ⟨j + 1, by go_num, rfl, by omega, by rw [HNX.out]; exact hO.stored j z, (hK.set g j _ (.inl hg1)).drew⟩
    · have hltI : ¬ (j : Int) < (k : Int) := by omega
      obtain rfl : j = k := by omega
      rw [HRES.out] at hO
      go_wp2_with fail
      go_ret
      exact ⟨A1, c1, rfl, hO, hK.below⟩

end Go.Proofs.Ytigedohalangbaa
