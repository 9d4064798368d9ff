/- digits.each: the iterator over the digits of bytes. Conditions: the text reads as bytes, the width is 1, 2, 4 or 8. -/
import Derived.Test.YtigedohalangbaaDoorInf
import Derived.Test.YtigedohalangbaaDoorD7Pure
import Derived.RangeFuncNested
import Derived.RangeFuncBound
import Derived.RangeFuncCalls
import Derived.RangeFuncLeaves
import Derived.RangeFuncBox
import Derived.Shelf.Abstract
import Derived.Shelf.RegionOpen
import Derived.WalkKit
import Derived.OwnWalkIn
import Derived.TacticsInMore
import Derived.LoopNIn
import Derived.LoopIn
import Derived.Outline
namespace Go.Proofs.YtigedohalangbaaDoor
open Go.RowKit Go.Shelf
set_option linter.unusedVariables false
set_option linter.unusedSimpArgs false
attribute [local go_sem] Oper.semAt_some

theorem each_in (F : Fence) (n : Nat) (h5 : F.fn 40) (hro : F.round = none) (A : Option Addr) (len c : Nat) (wd : Int) (w : World) :
    CallsIn F n Tryd.prog 40 #[.slice A len c, .int .i64 wd] w fun e w' => e = .returned (.func (.func 42) #[] #[.pointer (some ⟨w.heap.size, 0, none⟩), .pointer (some ⟨w.heap.size + 1, 0, none⟩)]) ∧ w' = (w.alloc (.cells #[.slice A len c] 47)).alloc (.cells #[.int .i64 wd] 3) := by
  refine callsIn_of_wp Tryd.func40 rfl h5 ?_ hro
  simp only [Tryd.ntmps40, List.size_toArray, List.length_cons, List.length_nil, Nat.reduceAdd, Nat.reduceSub, Array.replicate_succ, Array.replicate_zero, List.push_toArray, List.append_toArray, List.nil_append, List.cons_append]
  gi_wp2
  go_ret
  exact ⟨rfl, rfl⟩

/-- What a round that goes on keeps: what lies below n₀, and one block besides. -/
structure KpD (n₀ B2 : Nat) (A B : World) : Prop where
  low : Below n₀ A B
  one : B.heap[B2]? = A.heap[B2]?
theorem KpD.refl (n₀ B2 : Nat) (A : World) : KpD n₀ B2 A A := ⟨Below.refl _ _, rfl⟩
theorem KpD.trans {n₀ B2 : Nat} {A B C : World} (h : KpD n₀ B2 A B) (k : KpD n₀ B2 B C) : KpD n₀ B2 A C := ⟨h.low.trans k.low, k.one.trans h.one⟩
theorem KpD.drew {n₀ B2 : Nat} {A B : World} (h : KpD n₀ B2 A B) : KpD n₀ B2 A B.drew := ⟨h.low.drew, h.one⟩
theorem KpD.cell2 {n₀ B2 : Nat} {A B : World} {v : Value} (h : KpD n₀ B2 A B) (hc : A.cell? ⟨B2, 0, none⟩ = some v) : B.cell? ⟨B2, 0, none⟩ = some v := (World.cell?_of_block (a := ⟨B2, 0, none⟩) h.one).trans hc
theorem KpD.putObj {n₀ B2 m : Nat} (hn : n₀ ≤ m) (hB : B2 < m) (W : World) (l : Nat) (o o' : Obj) (hl : m ≤ l) (h : W.heap[l]? = some o) (h1 : o.isCells = false) (h2 : o.isWalk = false) : KpD n₀ B2 W (W.putObj l o') :=
  ⟨(Below.refl n₀ W).grown (grownBy_putObj' W l o') (by have := (Array.getElem?_eq_some_iff.1 h).1; omega) (fun k e => by cases e; omega), World.putObj_heap_other (by omega)⟩
/-- What a round has done. -/
def Went (J Jx : List Int → World → Prop) (n₀ B2 : Nat) (W : World) (pre : List Int) (b : Bool) (W' : World) : Prop := (b = true ∧ J pre W' ∧ KpD n₀ B2 W W') ∨ (b = false ∧ Jx pre W')

theorem and_mask (w : Nat) (hw : IsW w) (x : Int) (h0 : 0 ≤ x) (h1 : x < 256) : bits .and .i64 x (2 ^ w - 1) = x % 2 ^ w := by
  obtain ⟨n, rfl⟩ : ∃ n : Nat, x = n := ⟨x.toNat, by omega⟩
  have h : ∀ w, w = 1 ∨ w = 2 ∨ w = 4 ∨ w = 8 → ∀ n : Nat, n < 256 → bits .and .i64 (n : Int) (2 ^ w - 1) = (n : Int) % 2 ^ w := by
    intro w hw
    rcases hw with rfl | rfl | rfl | rfl <;> decide +kernel
  exact h w hw n (by omega)

set_option maxRecDepth 100000 in
set_option maxHeartbeats 400000 in
theorem each1_1 (F : Fence) (n : Nat) (h6 : F.fn 42) (hro : F.round = none) (hn : 1 ≤ n) (l B1 B2 n₀ : Nat) (b : List Int) (A : Option Addr) (c L : Nat) (hL : b.length = L) (hL2 : L ≤ 9223372036854775807) (hb : Bys b) (J Jx : List Int → World → Prop) (W : World) (hJ : AbidesFrom W.heap.size J)
    (hY : ∀ pre x W, J pre W → pre.length < (digL b 1).length → YieldAt F (n - 1) Tryd.prog l #[.int .i64 x] W fun e W' =>
      (e = .returned (.bool true) ∧ J (pre ++ [x]) W' ∧ KpD n₀ B2 W W') ∨ (e = .returned (.bool false) ∧ Jx (pre ++ [x]) W'))
    (h1 : W.cell? ⟨B1, 0, none⟩ = some (.slice A L c)) (h2 : W.cell? ⟨B2, 0, none⟩ = some (.int .i64 1)) (hr : Rd W n₀ .u8 A b) (h0 : J [] W) :
    CallsIn F n Tryd.prog 42 #[.func (.yield l) #[] #[], .pointer (some ⟨B1, 0, none⟩), .pointer (some ⟨B2, 0, none⟩)] W fun e W' => (∃ v, e = .returned v) ∧
      ((∃ ys, ys = digL b 1 ∧ J ys W') ∨ (∃ pre, pre <+: digL b 1 ∧ Jx pre W')) := by
  obtain ⟨fF, dF, aF, rF⟩ := F
  obtain rfl : rF = none := hro
  refine callsIn_of_wp Tryd.func42 rfl h6 ?_ rfl
  simp only [Tryd.ntmps42, List.size_toArray, List.length_cons, List.length_nil, Nat.reduceAdd, Nat.reduceSub, Array.replicate_succ, Array.replicate_zero, List.push_toArray, List.append_toArray, List.nil_append, List.cons_append]
  gi_wp2
  gi_loopw [5, 6, 9] (fun _ _ i wr => ∃ k : Nat, k ≤ L ∧ i = .int .i64 k ∧ J ((digL b 1).take (8 * k)) wr ∧ KpD n₀ B2 W wr)
    (fun _ _ i _ => L - (intOf i).toNat)
  case atStart => exact ⟨0, Nat.zero_le _, rfl, by simpa using h0, KpD.refl _ _ _⟩
  case round =>
    obtain ⟨k, hk, rfl, hJs, hnx⟩ := hrel
    by_cases hlt : k < L
    · obtain ⟨ad, rfl, hadB, hca⟩ := hr.at_ (i := k) (by omega)
      obtain ⟨y, hy⟩ : ∃ y, gt b k = y := ⟨_, rfl⟩
      have hyb := hb.gt k
      rw [hy] at hyb hca
      obtain ⟨hy0, hy1⟩ := hyb
      have hc1 : wr.cell? (ad.add k) = some (.int .u8 y) := (hnx.low.cell (p := ad.add k) (by rw [block_plus]; exact hadB)).trans hca
      have hc2 : wr.cell? ⟨B2, 0, none⟩ = some (.int .i64 1) := hnx.cell2 h2
      gi_wp2
      obtain ⟨wo, rfl⟩ : ∃ wo : World, wo = wr := ⟨_, rfl⟩
      gi_loopw [6] (fun at_ wr => ∃ j : Nat, j ≤ 8 ∧ at_ = .int .i64 (8 - 1 * (j + 1)) ∧ J ((digL b 1).take (8 * k + j)) wr ∧ KpD n₀ B2 W wr)
        (fun at_ _ => (intOf at_ + 100).toNat)
      case atStart => exact ⟨0, Nat.zero_le _, rfl, hJs, hnx⟩
      case round =>
        obtain ⟨j, hj, rfl, hJ2, hn2⟩ := hrel
        by_cases hlj : j < 8
        · obtain ⟨a, ha⟩ : ∃ a : Nat, (8 - 1 * ((j : Int) + 1)) = (a : Int) := ⟨8 - 1 * (j + 1), by omega⟩
          have ha2 : a = 8 - 1 * (j + 1) := by omega
          rw [ha]
          have ha0 : (0 : Int) ≤ (a : Int) := by omega
          have ha64 : (a : Int) < 64 := by omega
          have hkk : 8 * k + j < 8 / 1 * b.length := by rw [hL]; omega
          obtain ⟨x, hx⟩ : ∃ x, dig y 1 j = x := ⟨_, rfl⟩
          have hsn := digL_snoc b 1 (8 * k + j) hkk
          rw [show (8 * k + j) / (8 / 1) = k by omega, show (8 * k + j) % (8 / 1) = j by omega, hy, hx] at hsn
          have hln : ((digL b 1).take (8 * k + j)).length < (digL b 1).length := by rw [List.length_take, digL_len]; omega
          have hd2 : wr.cell? ⟨B2, 0, none⟩ = some (.int .i64 1) := hn2.cell2 h2
          obtain ⟨fn, tmps, assign, body, hyl, hR⟩ := hY _ x wr.drew (hJ _ wr wr.drew none hJ2 ⟨rfl, rfl, rfl, Nat.le_refl _, fun _ _ _ => rfl⟩ (fun r e => by cases e)) hln
          have hmx : Tryd.prog.follows .mixedOrders = true := by kernel_rfl
          have hR' := hR.mono (R' := fun e W' => ∃ bb, e = .returned (.bool bb) ∧ Went J Jx n₀ B2 wr.drew ((digL b 1).take (8 * k + j + 1)) bb W') (by
            rw [hsn]
            rintro e W' (⟨rfl, hJ', hk'⟩ | ⟨rfl, hJx'⟩)
            · exact ⟨true, rfl, .inl ⟨rfl, hJ', hk'⟩⟩
            · exact ⟨false, rfl, .inr ⟨rfl, hJx'⟩⟩)
          have hand : bits .and .i64 (y / 2 ^ a) 1 = x := by
            have h := and_mask 1 (.inl rfl) (y / 2 ^ a) (Int.ediv_nonneg hy0 (by exact_mod_cast Nat.zero_le _)) (Int.lt_of_le_of_lt (Int.ediv_le_self _ hy0) hy1)
            rw [show ((2 : Int) ^ 1 - 1) = 1 by decide] at h
            rw [h, ← hx, dig, ha2]
          have hw1 : IntKind.i64.wrap y = y := IntWalk.i64_in _ (by omega)
          have hw2 : IntKind.i64.wrap 2 = 2 := by decide
          have hw3 : IntKind.i64.wrap 1 = 1 := by decide
          have HA := Lib.hid ha
          clear hR hsn hln hkk hx ha2 ha hY hca
          gi_wp2
          gi_region_with ((with_reducible refine hR'.mono ?_); rintro e W' ⟨bb, rfl, hwent⟩)
          (try simp only [Act.put, List.setIfInBounds_toArray, List.set_cons_zero, List.set_cons_succ])
          clear hmx hd2 hw1 hw2 hw3 hand hyl hR'
          rcases hwent with ⟨rfl, hJ3, hk3⟩ | ⟨rfl, hJx3⟩
          · have hn3 : KpD n₀ B2 W W' := hn2.drew.trans hk3
            have hd3 : W'.cell? ⟨B2, 0, none⟩ = some (.int .i64 1) := hn3.cell2 h2
            gi_wp2
            go_roundw
            case rel => exact ⟨j + 1, by omega, by have := HA.out; congr 1; push_cast; omega, hJ3, hn3⟩
            case measure => simp [intOf]; omega
          · gi_wp2
            refine bodyPost_ret (results_none rfl _ _ _) rfl ?_
            exact ⟨⟨_, rfl⟩, .inr ⟨_, List.take_prefix _ _, hJx3⟩⟩
        · obtain rfl : j = 8 := by omega
          have e : (8 - 1 * (((8 : Nat) : Int) + 1)) = -1 := by decide
          rw [e]
          gi_wp2
          go_roundw
          case rel => exact ⟨k + 1, by omega, by go_num, by rw [show 8 * (k + 1) = 8 * k + 8 by omega]; exact hJ2, hn2⟩
          case measure => simp [intOf]; omega
    · obtain rfl : k = L := by omega
      gi_wp2
      go_end0
      exact ⟨⟨_, rfl⟩, .inl ⟨_, rfl, by
        have h := hJs
        rw [List.take_of_length_le (by rw [digL_len, hL]; omega)] at h
        exact h⟩⟩

set_option maxRecDepth 100000 in
set_option maxHeartbeats 400000 in
theorem each1_2 (F : Fence) (n : Nat) (h6 : F.fn 42) (hro : F.round = none) (hn : 1 ≤ n) (l B1 B2 n₀ : Nat) (b : List Int) (A : Option Addr) (c L : Nat) (hL : b.length = L) (hL2 : L ≤ 9223372036854775807) (hb : Bys b) (J Jx : List Int → World → Prop) (W : World) (hJ : AbidesFrom W.heap.size J)
    (hY : ∀ pre x W, J pre W → pre.length < (digL b 2).length → YieldAt F (n - 1) Tryd.prog l #[.int .i64 x] W fun e W' =>
      (e = .returned (.bool true) ∧ J (pre ++ [x]) W' ∧ KpD n₀ B2 W W') ∨ (e = .returned (.bool false) ∧ Jx (pre ++ [x]) W'))
    (h1 : W.cell? ⟨B1, 0, none⟩ = some (.slice A L c)) (h2 : W.cell? ⟨B2, 0, none⟩ = some (.int .i64 2)) (hr : Rd W n₀ .u8 A b) (h0 : J [] W) :
    CallsIn F n Tryd.prog 42 #[.func (.yield l) #[] #[], .pointer (some ⟨B1, 0, none⟩), .pointer (some ⟨B2, 0, none⟩)] W fun e W' => (∃ v, e = .returned v) ∧
      ((∃ ys, ys = digL b 2 ∧ J ys W') ∨ (∃ pre, pre <+: digL b 2 ∧ Jx pre W')) := by
  obtain ⟨fF, dF, aF, rF⟩ := F
  obtain rfl : rF = none := hro
  refine callsIn_of_wp Tryd.func42 rfl h6 ?_ rfl
  simp only [Tryd.ntmps42, List.size_toArray, List.length_cons, List.length_nil, Nat.reduceAdd, Nat.reduceSub, Array.replicate_succ, Array.replicate_zero, List.push_toArray, List.append_toArray, List.nil_append, List.cons_append]
  gi_wp2
  gi_loopw [5, 6, 9] (fun _ _ i wr => ∃ k : Nat, k ≤ L ∧ i = .int .i64 k ∧ J ((digL b 2).take (4 * k)) wr ∧ KpD n₀ B2 W wr)
    (fun _ _ i _ => L - (intOf i).toNat)
  case atStart => exact ⟨0, Nat.zero_le _, rfl, by simpa using h0, KpD.refl _ _ _⟩
  case round =>
    obtain ⟨k, hk, rfl, hJs, hnx⟩ := hrel
    by_cases hlt : k < L
    · obtain ⟨ad, rfl, hadB, hca⟩ := hr.at_ (i := k) (by omega)
      obtain ⟨y, hy⟩ : ∃ y, gt b k = y := ⟨_, rfl⟩
      have hyb := hb.gt k
      rw [hy] at hyb hca
      obtain ⟨hy0, hy1⟩ := hyb
      have hc1 : wr.cell? (ad.add k) = some (.int .u8 y) := (hnx.low.cell (p := ad.add k) (by rw [block_plus]; exact hadB)).trans hca
      have hc2 : wr.cell? ⟨B2, 0, none⟩ = some (.int .i64 2) := hnx.cell2 h2
      gi_wp2
      obtain ⟨wo, rfl⟩ : ∃ wo : World, wo = wr := ⟨_, rfl⟩
      gi_loopw [6] (fun at_ wr => ∃ j : Nat, j ≤ 4 ∧ at_ = .int .i64 (8 - 2 * (j + 1)) ∧ J ((digL b 2).take (4 * k + j)) wr ∧ KpD n₀ B2 W wr)
        (fun at_ _ => (intOf at_ + 100).toNat)
      case atStart => exact ⟨0, Nat.zero_le _, rfl, hJs, hnx⟩
      case round =>
        obtain ⟨j, hj, rfl, hJ2, hn2⟩ := hrel
        by_cases hlj : j < 4
        · obtain ⟨a, ha⟩ : ∃ a : Nat, (8 - 2 * ((j : Int) + 1)) = (a : Int) := ⟨8 - 2 * (j + 1), by omega⟩
          have ha2 : a = 8 - 2 * (j + 1) := by omega
          rw [ha]
          have ha0 : (0 : Int) ≤ (a : Int) := by omega
          have ha64 : (a : Int) < 64 := by omega
          have hkk : 4 * k + j < 8 / 2 * b.length := by rw [hL]; omega
          obtain ⟨x, hx⟩ : ∃ x, dig y 2 j = x := ⟨_, rfl⟩
          have hsn := digL_snoc b 2 (4 * k + j) hkk
          rw [show (4 * k + j) / (8 / 2) = k by omega, show (4 * k + j) % (8 / 2) = j by omega, hy, hx] at hsn
          have hln : ((digL b 2).take (4 * k + j)).length < (digL b 2).length := by rw [List.length_take, digL_len]; omega
          have hd2 : wr.cell? ⟨B2, 0, none⟩ = some (.int .i64 2) := hn2.cell2 h2
          obtain ⟨fn, tmps, assign, body, hyl, hR⟩ := hY _ x wr.drew (hJ _ wr wr.drew none hJ2 ⟨rfl, rfl, rfl, Nat.le_refl _, fun _ _ _ => rfl⟩ (fun r e => by cases e)) hln
          have hmx : Tryd.prog.follows .mixedOrders = true := by kernel_rfl
          have hR' := hR.mono (R' := fun e W' => ∃ bb, e = .returned (.bool bb) ∧ Went J Jx n₀ B2 wr.drew ((digL b 2).take (4 * k + j + 1)) bb W') (by
            rw [hsn]
            rintro e W' (⟨rfl, hJ', hk'⟩ | ⟨rfl, hJx'⟩)
            · exact ⟨true, rfl, .inl ⟨rfl, hJ', hk'⟩⟩
            · exact ⟨false, rfl, .inr ⟨rfl, hJx'⟩⟩)
          have hand : bits .and .i64 (y / 2 ^ a) 3 = x := by
            have h := and_mask 2 (.inr (.inl rfl)) (y / 2 ^ a) (Int.ediv_nonneg hy0 (by exact_mod_cast Nat.zero_le _)) (Int.lt_of_le_of_lt (Int.ediv_le_self _ hy0) hy1)
            rw [show ((2 : Int) ^ 2 - 1) = 3 by decide] at h
            rw [h, ← hx, dig, ha2]
          have hw1 : IntKind.i64.wrap y = y := IntWalk.i64_in _ (by omega)
          have hw2 : IntKind.i64.wrap 4 = 4 := by decide
          have hw3 : IntKind.i64.wrap 3 = 3 := by decide
          have HA := Lib.hid ha
          clear hR hsn hln hkk hx ha2 ha hY hca
          gi_wp2
          gi_region_with ((with_reducible refine hR'.mono ?_); rintro e W' ⟨bb, rfl, hwent⟩)
          (try simp only [Act.put, List.setIfInBounds_toArray, List.set_cons_zero, List.set_cons_succ])
          clear hmx hd2 hw1 hw2 hw3 hand hyl hR'
          rcases hwent with ⟨rfl, hJ3, hk3⟩ | ⟨rfl, hJx3⟩
          · have hn3 : KpD n₀ B2 W W' := hn2.drew.trans hk3
            have hd3 : W'.cell? ⟨B2, 0, none⟩ = some (.int .i64 2) := hn3.cell2 h2
            gi_wp2
            go_roundw
            case rel => exact ⟨j + 1, by omega, by have := HA.out; congr 1; push_cast; omega, hJ3, hn3⟩
            case measure => simp [intOf]; omega
          · gi_wp2
            refine bodyPost_ret (results_none rfl _ _ _) rfl ?_
            exact ⟨⟨_, rfl⟩, .inr ⟨_, List.take_prefix _ _, hJx3⟩⟩
        · obtain rfl : j = 4 := by omega
          have e : (8 - 2 * (((4 : Nat) : Int) + 1)) = -2 := by decide
          rw [e]
          gi_wp2
          go_roundw
          case rel => exact ⟨k + 1, by omega, by go_num, by rw [show 4 * (k + 1) = 4 * k + 4 by omega]; exact hJ2, hn2⟩
          case measure => simp [intOf]; omega
    · obtain rfl : k = L := by omega
      gi_wp2
      go_end0
      exact ⟨⟨_, rfl⟩, .inl ⟨_, rfl, by
        have h := hJs
        rw [List.take_of_length_le (by rw [digL_len, hL]; omega)] at h
        exact h⟩⟩

set_option maxRecDepth 100000 in
set_option maxHeartbeats 400000 in
theorem each1_4 (F : Fence) (n : Nat) (h6 : F.fn 42) (hro : F.round = none) (hn : 1 ≤ n) (l B1 B2 n₀ : Nat) (b : List Int) (A : Option Addr) (c L : Nat) (hL : b.length = L) (hL2 : L ≤ 9223372036854775807) (hb : Bys b) (J Jx : List Int → World → Prop) (W : World) (hJ : AbidesFrom W.heap.size J)
    (hY : ∀ pre x W, J pre W → pre.length < (digL b 4).length → YieldAt F (n - 1) Tryd.prog l #[.int .i64 x] W fun e W' =>
      (e = .returned (.bool true) ∧ J (pre ++ [x]) W' ∧ KpD n₀ B2 W W') ∨ (e = .returned (.bool false) ∧ Jx (pre ++ [x]) W'))
    (h1 : W.cell? ⟨B1, 0, none⟩ = some (.slice A L c)) (h2 : W.cell? ⟨B2, 0, none⟩ = some (.int .i64 4)) (hr : Rd W n₀ .u8 A b) (h0 : J [] W) :
    CallsIn F n Tryd.prog 42 #[.func (.yield l) #[] #[], .pointer (some ⟨B1, 0, none⟩), .pointer (some ⟨B2, 0, none⟩)] W fun e W' => (∃ v, e = .returned v) ∧
      ((∃ ys, ys = digL b 4 ∧ J ys W') ∨ (∃ pre, pre <+: digL b 4 ∧ Jx pre W')) := by
  obtain ⟨fF, dF, aF, rF⟩ := F
  obtain rfl : rF = none := hro
  refine callsIn_of_wp Tryd.func42 rfl h6 ?_ rfl
  simp only [Tryd.ntmps42, List.size_toArray, List.length_cons, List.length_nil, Nat.reduceAdd, Nat.reduceSub, Array.replicate_succ, Array.replicate_zero, List.push_toArray, List.append_toArray, List.nil_append, List.cons_append]
  gi_wp2
  gi_loopw [5, 6, 9] (fun _ _ i wr => ∃ k : Nat, k ≤ L ∧ i = .int .i64 k ∧ J ((digL b 4).take (2 * k)) wr ∧ KpD n₀ B2 W wr)
    (fun _ _ i _ => L - (intOf i).toNat)
  case atStart => exact ⟨0, Nat.zero_le _, rfl, by simpa using h0, KpD.refl _ _ _⟩
  case round =>
    obtain ⟨k, hk, rfl, hJs, hnx⟩ := hrel
    by_cases hlt : k < L
    · obtain ⟨ad, rfl, hadB, hca⟩ := hr.at_ (i := k) (by omega)
      obtain ⟨y, hy⟩ : ∃ y, gt b k = y := ⟨_, rfl⟩
      have hyb := hb.gt k
      rw [hy] at hyb hca
      obtain ⟨hy0, hy1⟩ := hyb
      have hc1 : wr.cell? (ad.add k) = some (.int .u8 y) := (hnx.low.cell (p := ad.add k) (by rw [block_plus]; exact hadB)).trans hca
      have hc2 : wr.cell? ⟨B2, 0, none⟩ = some (.int .i64 4) := hnx.cell2 h2
      gi_wp2
      obtain ⟨wo, rfl⟩ : ∃ wo : World, wo = wr := ⟨_, rfl⟩
      gi_loopw [6] (fun at_ wr => ∃ j : Nat, j ≤ 2 ∧ at_ = .int .i64 (8 - 4 * (j + 1)) ∧ J ((digL b 4).take (2 * k + j)) wr ∧ KpD n₀ B2 W wr)
        (fun at_ _ => (intOf at_ + 100).toNat)
      case atStart => exact ⟨0, Nat.zero_le _, rfl, hJs, hnx⟩
      case round =>
        obtain ⟨j, hj, rfl, hJ2, hn2⟩ := hrel
        by_cases hlj : j < 2
        · obtain ⟨a, ha⟩ : ∃ a : Nat, (8 - 4 * ((j : Int) + 1)) = (a : Int) := ⟨8 - 4 * (j + 1), by omega⟩
          have ha2 : a = 8 - 4 * (j + 1) := by omega
          rw [ha]
          have ha0 : (0 : Int) ≤ (a : Int) := by omega
          have ha64 : (a : Int) < 64 := by omega
          have hkk : 2 * k + j < 8 / 4 * b.length := by rw [hL]; omega
          obtain ⟨x, hx⟩ : ∃ x, dig y 4 j = x := ⟨_, rfl⟩
          have hsn := digL_snoc b 4 (2 * k + j) hkk
          rw [show (2 * k + j) / (8 / 4) = k by omega, show (2 * k + j) % (8 / 4) = j by omega, hy, hx] at hsn
          have hln : ((digL b 4).take (2 * k + j)).length < (digL b 4).length := by rw [List.length_take, digL_len]; omega
          have hd2 : wr.cell? ⟨B2, 0, none⟩ = some (.int .i64 4) := hn2.cell2 h2
          obtain ⟨fn, tmps, assign, body, hyl, hR⟩ := hY _ x wr.drew (hJ _ wr wr.drew none hJ2 ⟨rfl, rfl, rfl, Nat.le_refl _, fun _ _ _ => rfl⟩ (fun r e => by cases e)) hln
          have hmx : Tryd.prog.follows .mixedOrders = true := by kernel_rfl
          have hR' := hR.mono (R' := fun e W' => ∃ bb, e = .returned (.bool bb) ∧ Went J Jx n₀ B2 wr.drew ((digL b 4).take (2 * k + j + 1)) bb W') (by
            rw [hsn]
            rintro e W' (⟨rfl, hJ', hk'⟩ | ⟨rfl, hJx'⟩)
            · exact ⟨true, rfl, .inl ⟨rfl, hJ', hk'⟩⟩
            · exact ⟨false, rfl, .inr ⟨rfl, hJx'⟩⟩)
          have hand : bits .and .i64 (y / 2 ^ a) 15 = x := by
            have h := and_mask 4 (.inr (.inr (.inl rfl))) (y / 2 ^ a) (Int.ediv_nonneg hy0 (by exact_mod_cast Nat.zero_le _)) (Int.lt_of_le_of_lt (Int.ediv_le_self _ hy0) hy1)
            rw [show ((2 : Int) ^ 4 - 1) = 15 by decide] at h
            rw [h, ← hx, dig, ha2]
          have hw1 : IntKind.i64.wrap y = y := IntWalk.i64_in _ (by omega)
          have hw2 : IntKind.i64.wrap 16 = 16 := by decide
          have hw3 : IntKind.i64.wrap 15 = 15 := by decide
          have HA := Lib.hid ha
          clear hR hsn hln hkk hx ha2 ha hY hca
          gi_wp2
          gi_region_with ((with_reducible refine hR'.mono ?_); rintro e W' ⟨bb, rfl, hwent⟩)
          (try simp only [Act.put, List.setIfInBounds_toArray, List.set_cons_zero, List.set_cons_succ])
          clear hmx hd2 hw1 hw2 hw3 hand hyl hR'
          rcases hwent with ⟨rfl, hJ3, hk3⟩ | ⟨rfl, hJx3⟩
          · have hn3 : KpD n₀ B2 W W' := hn2.drew.trans hk3
            have hd3 : W'.cell? ⟨B2, 0, none⟩ = some (.int .i64 4) := hn3.cell2 h2
            gi_wp2
            go_roundw
            case rel => exact ⟨j + 1, by omega, by have := HA.out; congr 1; push_cast; omega, hJ3, hn3⟩
            case measure => simp [intOf]; omega
          · gi_wp2
            refine bodyPost_ret (results_none rfl _ _ _) rfl ?_
            exact ⟨⟨_, rfl⟩, .inr ⟨_, List.take_prefix _ _, hJx3⟩⟩
        · obtain rfl : j = 2 := by omega
          have e : (8 - 4 * (((2 : Nat) : Int) + 1)) = -4 := by decide
          rw [e]
          gi_wp2
          go_roundw
          case rel => exact ⟨k + 1, by omega, by go_num, by rw [show 2 * (k + 1) = 2 * k + 2 by omega]; exact hJ2, hn2⟩
          case measure => simp [intOf]; omega
    · obtain rfl : k = L := by omega
      gi_wp2
      go_end0
      exact ⟨⟨_, rfl⟩, .inl ⟨_, rfl, by
        have h := hJs
        rw [List.take_of_length_le (by rw [digL_len, hL]; omega)] at h
        exact h⟩⟩

set_option maxRecDepth 100000 in
set_option maxHeartbeats 400000 in
theorem each1_8 (F : Fence) (n : Nat) (h6 : F.fn 42) (hro : F.round = none) (hn : 1 ≤ n) (l B1 B2 n₀ : Nat) (b : List Int) (A : Option Addr) (c L : Nat) (hL : b.length = L) (hL2 : L ≤ 9223372036854775807) (hb : Bys b) (J Jx : List Int → World → Prop) (W : World) (hJ : AbidesFrom W.heap.size J)
    (hY : ∀ pre x W, J pre W → pre.length < (digL b 8).length → YieldAt F (n - 1) Tryd.prog l #[.int .i64 x] W fun e W' =>
      (e = .returned (.bool true) ∧ J (pre ++ [x]) W' ∧ KpD n₀ B2 W W') ∨ (e = .returned (.bool false) ∧ Jx (pre ++ [x]) W'))
    (h1 : W.cell? ⟨B1, 0, none⟩ = some (.slice A L c)) (h2 : W.cell? ⟨B2, 0, none⟩ = some (.int .i64 8)) (hr : Rd W n₀ .u8 A b) (h0 : J [] W) :
    CallsIn F n Tryd.prog 42 #[.func (.yield l) #[] #[], .pointer (some ⟨B1, 0, none⟩), .pointer (some ⟨B2, 0, none⟩)] W fun e W' => (∃ v, e = .returned v) ∧
      ((∃ ys, ys = digL b 8 ∧ J ys W') ∨ (∃ pre, pre <+: digL b 8 ∧ Jx pre W')) := by
  obtain ⟨fF, dF, aF, rF⟩ := F
  obtain rfl : rF = none := hro
  refine callsIn_of_wp Tryd.func42 rfl h6 ?_ rfl
  simp only [Tryd.ntmps42, List.size_toArray, List.length_cons, List.length_nil, Nat.reduceAdd, Nat.reduceSub, Array.replicate_succ, Array.replicate_zero, List.push_toArray, List.append_toArray, List.nil_append, List.cons_append]
  gi_wp2
  gi_loopw [5, 6, 9] (fun _ _ i wr => ∃ k : Nat, k ≤ L ∧ i = .int .i64 k ∧ J ((digL b 8).take (1 * k)) wr ∧ KpD n₀ B2 W wr)
    (fun _ _ i _ => L - (intOf i).toNat)
  case atStart => exact ⟨0, Nat.zero_le _, rfl, by simpa using h0, KpD.refl _ _ _⟩
  case round =>
    obtain ⟨k, hk, rfl, hJs, hnx⟩ := hrel
    by_cases hlt : k < L
    · obtain ⟨ad, rfl, hadB, hca⟩ := hr.at_ (i := k) (by omega)
      obtain ⟨y, hy⟩ : ∃ y, gt b k = y := ⟨_, rfl⟩
      have hyb := hb.gt k
      rw [hy] at hyb hca
      obtain ⟨hy0, hy1⟩ := hyb
      have hc1 : wr.cell? (ad.add k) = some (.int .u8 y) := (hnx.low.cell (p := ad.add k) (by rw [block_plus]; exact hadB)).trans hca
      have hc2 : wr.cell? ⟨B2, 0, none⟩ = some (.int .i64 8) := hnx.cell2 h2
      gi_wp2
      obtain ⟨wo, rfl⟩ : ∃ wo : World, wo = wr := ⟨_, rfl⟩
      gi_loopw [6] (fun at_ wr => ∃ j : Nat, j ≤ 1 ∧ at_ = .int .i64 (8 - 8 * (j + 1)) ∧ J ((digL b 8).take (1 * k + j)) wr ∧ KpD n₀ B2 W wr)
        (fun at_ _ => (intOf at_ + 100).toNat)
      case atStart => exact ⟨0, Nat.zero_le _, rfl, hJs, hnx⟩
      case round =>
        obtain ⟨j, hj, rfl, hJ2, hn2⟩ := hrel
        by_cases hlj : j < 1
        · obtain ⟨a, ha⟩ : ∃ a : Nat, (8 - 8 * ((j : Int) + 1)) = (a : Int) := ⟨8 - 8 * (j + 1), by omega⟩
          have ha2 : a = 8 - 8 * (j + 1) := by omega
          rw [ha]
          have ha0 : (0 : Int) ≤ (a : Int) := by omega
          have ha64 : (a : Int) < 64 := by omega
          have hkk : 1 * k + j < 8 / 8 * b.length := by rw [hL]; omega
          obtain ⟨x, hx⟩ : ∃ x, dig y 8 j = x := ⟨_, rfl⟩
          have hsn := digL_snoc b 8 (1 * k + j) hkk
          rw [show (1 * k + j) / (8 / 8) = k by omega, show (1 * k + j) % (8 / 8) = j by omega, hy, hx] at hsn
          have hln : ((digL b 8).take (1 * k + j)).length < (digL b 8).length := by rw [List.length_take, digL_len]; omega
          have hd2 : wr.cell? ⟨B2, 0, none⟩ = some (.int .i64 8) := hn2.cell2 h2
          obtain ⟨fn, tmps, assign, body, hyl, hR⟩ := hY _ x wr.drew (hJ _ wr wr.drew none hJ2 ⟨rfl, rfl, rfl, Nat.le_refl _, fun _ _ _ => rfl⟩ (fun r e => by cases e)) hln
          have hmx : Tryd.prog.follows .mixedOrders = true := by kernel_rfl
          have hR' := hR.mono (R' := fun e W' => ∃ bb, e = .returned (.bool bb) ∧ Went J Jx n₀ B2 wr.drew ((digL b 8).take (1 * k + j + 1)) bb W') (by
            rw [hsn]
            rintro e W' (⟨rfl, hJ', hk'⟩ | ⟨rfl, hJx'⟩)
            · exact ⟨true, rfl, .inl ⟨rfl, hJ', hk'⟩⟩
            · exact ⟨false, rfl, .inr ⟨rfl, hJx'⟩⟩)
          have hand : bits .and .i64 (y / 2 ^ a) 255 = x := by
            have h := and_mask 8 (.inr (.inr (.inr rfl))) (y / 2 ^ a) (Int.ediv_nonneg hy0 (by exact_mod_cast Nat.zero_le _)) (Int.lt_of_le_of_lt (Int.ediv_le_self _ hy0) hy1)
            rw [show ((2 : Int) ^ 8 - 1) = 255 by decide] at h
            rw [h, ← hx, dig, ha2]
          have hw1 : IntKind.i64.wrap y = y := IntWalk.i64_in _ (by omega)
          have hw2 : IntKind.i64.wrap 256 = 256 := by decide
          have hw3 : IntKind.i64.wrap 255 = 255 := by decide
          have HA := Lib.hid ha
          clear hR hsn hln hkk hx ha2 ha hY hca
          gi_wp2
          gi_region_with ((with_reducible refine hR'.mono ?_); rintro e W' ⟨bb, rfl, hwent⟩)
          (try simp only [Act.put, List.setIfInBounds_toArray, List.set_cons_zero, List.set_cons_succ])
          clear hmx hd2 hw1 hw2 hw3 hand hyl hR'
          rcases hwent with ⟨rfl, hJ3, hk3⟩ | ⟨rfl, hJx3⟩
          · have hn3 : KpD n₀ B2 W W' := hn2.drew.trans hk3
            have hd3 : W'.cell? ⟨B2, 0, none⟩ = some (.int .i64 8) := hn3.cell2 h2
            gi_wp2
            go_roundw
            case rel => exact ⟨j + 1, by omega, by have := HA.out; congr 1; push_cast; omega, hJ3, hn3⟩
            case measure => simp [intOf]; omega
          · gi_wp2
            refine bodyPost_ret (results_none rfl _ _ _) rfl ?_
            exact ⟨⟨_, rfl⟩, .inr ⟨_, List.take_prefix _ _, hJx3⟩⟩
        · obtain rfl : j = 1 := by omega
          have e : (8 - 8 * (((1 : Nat) : Int) + 1)) = -8 := by decide
          rw [e]
          gi_wp2
          go_roundw
          case rel => exact ⟨k + 1, by omega, by go_num, by rw [show 1 * (k + 1) = 1 * k + 1 by omega]; exact hJ2, hn2⟩
          case measure => simp [intOf]; omega
    · obtain rfl : k = L := by omega
      gi_wp2
      go_end0
      exact ⟨⟨_, rfl⟩, .inl ⟨_, rfl, by
        have h := hJs
        rw [List.take_of_length_le (by rw [digL_len, hL]; omega)] at h
        exact h⟩⟩

end Go.Proofs.YtigedohalangbaaDoor
