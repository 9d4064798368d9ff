/- Layer 17: the iterator over the bits of bytes, walked. Conditions: the text reads as bytes. -/
import Derived.Test.YtfaonieaagepjaaDoorZF
import Derived.Test.YtfaonieaagepjaaDoorRf
namespace Go.Proofs.YtfaonieaagepjaaDoor
open Go.RowKit Go.Shelf
set_option linter.unusedVariables false
set_option linter.unusedSimpArgs false
attribute [local go_sem] Oper.semAt_some
/-- What a round that goes on keeps: what lies below n₀, and one block besides. -/
structure KpB (n₀ B : Nat) (X Y : World) : Prop where
  low : Below n₀ X Y
  one : Y.heap[B]? = X.heap[B]?
theorem KpB.refl (n₀ B : Nat) (X : World) : KpB n₀ B X X := ⟨Below.refl _ _, rfl⟩
theorem KpB.trans {n₀ B : Nat} {X Y Z : World} (h : KpB n₀ B X Y) (k : KpB n₀ B Y Z) : KpB n₀ B X Z := ⟨h.low.trans k.low, k.one.trans h.one⟩
theorem KpB.cell {n₀ B : Nat} {X Y : World} {v : Value} (h : KpB n₀ B X Y) (hc : X.cell? ⟨B, 0, none⟩ = some v) : Y.cell? ⟨B, 0, none⟩ = some v := (World.cell?_of_block (a := ⟨B, 0, none⟩) h.one).trans hc
theorem KpB.putObj {n₀ B m : Nat} (hn : n₀ ≤ m) (hB : B < m) (W : World) (l : Nat) (o o' : Obj) (hl : m ≤ l) (h : W.heap[l]? = some o) (h1 : o.isCells = false) (h2 : o.isWalk = false) : KpB n₀ B W (W.putObj l o') :=
  ⟨(Below.refl n₀ W).grown (grownBy_putObj' W l o') (by have := (Array.getElem?_eq_some_iff.1 h).1; omega) (fun k e => by cases e; omega), World.putObj_heap_other (by omega)⟩
/-- What a round has done. -/
def Wnt (J Jx : Nat → World → Prop) (n₀ B : Nat) (W : World) (i : Nat) (b : Bool) (W' : World) : Prop := (b = true ∧ J (i + 1) W' ∧ KpB n₀ B W W') ∨ (b = false ∧ Jx i W')
theorem and_1b (x : Int) (h0 : 0 ≤ x) (h1 : x < 256) : bits .and .u8 x 1 = x % 2 := by
  obtain ⟨n, rfl⟩ : ∃ n : Nat, x = n := ⟨x.toNat, by omega⟩
  have h : ∀ n : Nat, n < 256 → bits .and .u8 (n : Int) 1 = (n : Int) % 2 := by decide +kernel
  exact h n (by omega)
set_option maxRecDepth 100000 in
set_option maxHeartbeats 400000 in
theorem bits_in (F : Fence) (n : Nat) (h5 : F.fn 50) (hro : F.round = none) (A : Option Addr) (len c : Nat) (w : World) :
    CallsIn F n Tryd.prog 50 #[.slice A len c] w fun e w' => e = .returned (.func (.func 72) #[] #[.pointer (some ⟨w.heap.size, 0, none⟩)]) ∧ w' = w.alloc (.cells #[.slice A len c] 24) := by
  refine callsIn_of_wp Tryd.func50 rfl h5 ?_ hro
  simp only [Tryd.ntmps50, List.size_toArray, List.length_cons, List.length_nil, Nat.reduceAdd, Nat.reduceSub, Array.replicate_succ, Array.replicate_zero, List.push_toArray, List.append_toArray, List.nil_append, List.cons_append]
  gi_wp2
  go_ret
  exact ⟨rfl, rfl⟩
set_option maxRecDepth 100000 in
set_option maxHeartbeats 400000 in
theorem bits_at (F : Fence) (n : Nat) (h6 : F.fn 72) (hro : F.round = none) (hn : 1 ≤ n) (B1 n₀ : Nat) (b : List Int) (A : Option Addr) (c L : Nat) (hL : b.length = L) (hL2 : L ≤ 100000) (hb : Bys b) (w0 : World) (hn0 : n₀ ≤ w0.heap.size) (hB1 : B1 < w0.heap.size)
    (h1 : w0.cell? ⟨B1, 0, none⟩ = some (.slice A L c)) (hr : Rd w0 n₀ .u8 A b) :
    SeqAt F n Tryd.prog 72 #[.pointer (some ⟨B1, 0, none⟩)] (fun i => #[.int .i64 i, .int .u32 (bitN b i)]) (KpB n₀ B1) (8 * L) w0 := by
  intro l J Jx W hW hJ hJx hY h0
  have h1 := (hW.cell (p := ⟨B1, 0, none⟩) hB1).trans h1
  have hr := hr.below (hW.mono hn0)
  obtain ⟨fF, dF, aF, rF⟩ := F
  obtain rfl : rF = none := hro
  refine callsIn_of_wp Tryd.func72 rfl h6 ?_ rfl
  simp only [Tryd.ntmps72, List.size_toArray, List.length_cons, List.length_nil, Nat.reduceAdd, Nat.reduceSub, Array.replicate_succ, Array.replicate_zero, List.push_toArray, List.append_toArray, List.nil_append, List.cons_append]
  have hL8 : wrap64 ((L : Int) * 8) = ((8 * L : Nat) : Int) := by rw [IntWalk.wrap64_in _ ⟨by omega, by omega⟩]; omega
  obtain ⟨T, hT⟩ : ∃ T, 8 * L = T := ⟨_, rfl⟩
  rw [hT] at hL8 hY ⊢
  gi_wp2
  gi_loopw [3, 7] (fun _ x wr => ∃ k : Nat, k ≤ T ∧ x = .int .i64 k ∧ J k wr ∧ KpB n₀ B1 W wr)
    (fun _ x _ => T - (intOf x).toNat)
  case atStart => exact ⟨0, Nat.zero_le _, rfl, h0, KpB.refl _ _ _⟩
  case round =>
    obtain ⟨k, hk, rfl, hJk, hnx⟩ := hrel
    by_cases hlt : k < T
    · have hkL : k / 8 < L := by omega
      obtain ⟨ad, rfl, hadB, hca⟩ := hr.at_ (i := k / 8) (by omega)
      obtain ⟨y, hy⟩ : ∃ y, gt b (k / 8) = y := ⟨_, rfl⟩
      have hyb := hb.gt (k / 8)
      rw [hy] at hyb hca
      have hbit : bitN b k = y / 2 ^ (7 - k % 8) % 2 := by unfold bitN; rw [hy]
      obtain ⟨hy0, hy1⟩ := hyb
      have hc1 : wr.cell? (ad.add (k / 8)) = some (.int .u8 y) := (hnx.low.cell (p := ad.add (k / 8)) (by rw [block_plus]; exact hadB)).trans hca
      have hc2 : wr.cell? ⟨B1, 0, none⟩ = some (.slice (some ad) L c) := hnx.cell h1
      obtain ⟨fn, tmps, assign, body, hyl, hR⟩ := hY k wr hlt hJk
      have hR' := hR.mono (R' := fun e W' => ∃ bb, e = .returned (.bool bb) ∧ Wnt J Jx n₀ B1 wr k bb W') (by
        rintro e W' (⟨rfl, hJ', hk'⟩ | ⟨rfl, hJx'⟩)
        · exact ⟨true, rfl, .inl ⟨rfl, hJ', hk'⟩⟩
        · exact ⟨false, rfl, .inr ⟨rfl, hJx'⟩⟩)
      have hand := and_1b (y / 2 ^ (7 - k % 8)) (Int.ediv_nonneg hy0 (by exact_mod_cast Nat.zero_le _)) (Int.lt_of_le_of_lt (Int.ediv_le_self _ hy0) hy1)
      rw [← hbit] at hand
      have hkI : (k : Int) / 8 < (L : Int) := by omega
      have HB := Lib.hid hbit
      have hbd := bitN_bd b k
      have hbm : bitN b k % 4294967296 = bitN b k := by omega
      have hltI : (k : Int) < (L : Int) * 8 := by omega
      clear hR hY hca hbit hy hbd
      gi_wp2_with ((with_reducible refine hR'.mono ?_); rintro e W' ⟨bb, rfl, hwent⟩)
      clear hbm hyl hR' hand
      all_goals (rcases hwent with ⟨rfl, hJ3, hk3⟩ | ⟨rfl, hJx3⟩ <;> (first | (exact absurd ‹(!true) = true› (by decide)) | (exact absurd ‹(!false) = false› (by decide)) | skip))
      · refine bodyPost_ret (results_none rfl _ _ _) rfl ?_
        exact ⟨⟨_, rfl⟩, .inr ⟨k, hlt, hJx3⟩⟩
      · have hn3 : KpB n₀ B1 W W' := hnx.trans hk3
        exact ⟨⟨k + 1, by omega, by go_num, hJ3, hn3⟩, by simp [intOf]; omega⟩
    · obtain rfl : k = T := by omega
      have hltI : ¬ (k : Int) < (L : Int) * 8 := by omega
      gi_wp2
      go_end0
      exact ⟨⟨_, rfl⟩, .inl hJk⟩
end Go.Proofs.YtfaonieaagepjaaDoor
