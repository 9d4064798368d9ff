/- SetsLeaves, walked. Conditions: the tables stand as they were laid. -/
import Derived.Test.YtigedohalangbaaDoorS8K
namespace Go.Proofs.YtigedohalangbaaDoor
open Go.RowKit
set_option linter.unusedVariables false
set_option linter.unusedSimpArgs false

def sumT : Nat → Int
  | 0 => 0
  | i + 1 => sumT i + lvN (t3 (gt treeL i))
theorem sumT_36 : sumT 36 = 138547448 := by decide +kernel
theorem sumT_bd : ∀ i, i < 37 → 0 ≤ sumT i ∧ sumT i ≤ 138547448 := by decide +kernel
theorem lvT_bd : ∀ i, i < 36 → 0 ≤ lvN (t3 (gt treeL i)) ∧ lvN (t3 (gt treeL i)) ≤ 138547448 := by decide +kernel
set_option maxHeartbeats 4000000 in
theorem leaves8_walk (h : Int) (w : World) (B : Nat) (hT : STab w B) (hB : B ≤ w.heap.size) (hh : -9223372036854775808 ≤ h ∧ h ≤ 9223372036854775807) :
    Calls Tryd.prog 6 #[.int .i64 h] w fun e w' => e = .returned (.bool true) ∧ Below w.heap.size w w' := by
  have hTr := fun i (hi : i < 36) v (hk : Below w.heap.size w v) => tree_any (gt treeL i) v B (hT.below (hk.mono hB)) (Nat.le_trans hB hk.size) (treeL_ok i hi).2
  have hCa := awake8_any w B hT hB
  go_enter Tryd.func6, Tryd.ntmps6
  go_wp2_with fail
  refine hCa.mono ?_
  rintro e v0 ⟨rfl, hK⟩
  clear hCa
  go_wp2_with fail
  refine (treecodes_any v0).mono ?_
  rintro e v2 ⟨A, ca, rfl, hl, hOw, hb⟩
  have hR := hOw.rd
  have hK := hK.trans (hb.mono hK.size)
  clear hb hOw
  have HL := Lib.hid hl
  clear hl
  go_wp2_with fail
  go_loopg [4, 5] 36 (fun g s4 s5 wr => ∃ i : Nat, s5 = .int .i64 i ∧ g = 36 - i ∧ i ≤ 36 ∧ s4 = .int .u64 (sumT i) ∧ Below v2.heap.size v2 wr)
  case atStart => exact ⟨0, rfl, rfl, Nat.zero_le _, rfl, Below.refl _ _⟩
  case round =>
    obtain ⟨i, rfl, hg, hi, rfl, hK2⟩ := hrel
    have HG := Lib.hid hg
    clear hg
    have hKw := hK.trans (hK2.mono hK.size)
    obtain ⟨n, hn⟩ : ∃ n, sumT i = n := ⟨_, rfl⟩
    have hnb := sumT_bd i (by omega)
    rw [hn] at hnb ⊢
    obtain ⟨hnb0, hnb1⟩ := hnb
    by_cases hlt : i < 36
    · have hltI : (i : Int) < 36 := by omega
      have hT2 := hTr i hlt wr hKw
      unfold TPost at hT2
      have hsuc : sumT (i + 1) = n + lvN (t3 (gt treeL i)) := by rw [sumT, hn]
      have hlb := lvT_bd i hlt
      have hte := (treeL_ok i hlt).1
      rw [hte] at hT2
      obtain ⟨ad, rfl, _, hcell⟩ := hR.at_ (i := i) (by rw [HL.out]; exact hlt)
      have hcell := (World.cell?_of_block (hK2.block _ (World.block_lt_of_cell? _ _ hcell))).trans hcell
      generalize t0 (gt treeL i) = y0 at hT2
      generalize t1 (gt treeL i) = y1 at hT2
      generalize t2 (gt treeL i) = y2 at hT2
      generalize t3 (gt treeL i) = y3 at hT2 hsuc hlb
      generalize gt treeL i = d at hT2 hcell
      have hlv := fun v => leaves_any y0 y1 y2 y3 _ v rfl
      generalize lvN y3 = lv at hlv hsuc hlb
      obtain ⟨hlb0, hlb1⟩ := hlb
      have HS := Lib.hid hsuc
      have HN := Lib.hid hn
      clear hsuc hn hte hTr
      go_wp2_with fail
      refine hT2.mono ?_
      rintro e v3 ⟨rfl, hb⟩
      clear hT2 hcell
      have hK3 := hK2.trans (hb.mono hK2.size)
      clear hb
      go_wp2_with fail
      refine (hlv _).mono ?_
      rintro e v4 ⟨rfl, hb⟩
      have hK4 := (hK3.alloc hK3.size (.cells #[.int .u32 y0, .int .i64 y1, .int .i64 y2, .int .i64 y3] 26)).trans (hb.mono (by have := hK3.size; simp; omega))
      clear hb hK3 hlv
      go_wp2_with fail
      go_roundg (36 - (i + 1))
      case measure => have := HG.out; omega
      case rel => exact ⟨i + 1, by go_num, rfl, by omega, by rw [HS.out], hK4⟩
    · have hltI : ¬ (i : Int) < 36 := by omega
      obtain rfl : i = 36 := by omega
      obtain rfl : n = 138547448 := hn.symm.trans sumT_36
      clear hn hTr hnb0 hnb1
      by_cases h1 : h < 1
      · have h0 : lvN h = 0 := by unfold lvN; rw [if_neg (by omega)]
        go_wp2_with fail
        refine (leaves_any 0 0 0 h 0 _ h0).mono ?_
        rintro e v3 ⟨rfl, hb⟩
        have hK3 := hKw.trans (hb.mono hKw.size)
        clear h0 hb
        go_wp2_with fail
        go_ret
        exact ⟨rfl, hK3⟩
      · by_cases h2 : h > 25
        · have h0 : lvN h = 0 := by unfold lvN; rw [if_neg (by omega)]
          go_wp2_with fail
          refine (leaves_any 0 0 0 h 0 _ h0).mono ?_
          rintro e v3 ⟨rfl, hb⟩
          have hK3 := hKw.trans (hb.mono hKw.size)
          clear h0 hb
          go_wp2_with fail
          go_ret
          exact ⟨rfl, hK3⟩
        · obtain ⟨k, rfl⟩ : ∃ k : Nat, h = k := ⟨h.toNat, by omega⟩
          have hk : k < 26 := by omega
          have h0 : lvN (k : Int) = 2 ^ k := by unfold lvN; rw [if_pos (by omega)]; simp
          have hd : ∀ k, k < 26 → (2 : Int) ^ k < 18446744073709551616 := by decide
          have hx := hd k hk
          have hx0 : (0 : Int) < 2 ^ k := Int.pow_pos (by decide)
          obtain ⟨v, hv⟩ : ∃ v : Int, 2 ^ k = v := ⟨_, rfl⟩
          have hdiv : v / 2 ^ k = 1 := by rw [hv]; exact Int.ediv_self (by omega)
          rw [hv] at h0 hx hx0
          have hvz : (v == 0) = false := by simp; omega
          go_wp2_with fail
          refine (leaves_any 0 0 0 (k : Int) v _ h0).mono ?_
          rintro e v3 ⟨rfl, hb⟩
          have hK3 := hKw.trans (hb.mono hKw.size)
          clear h0 hb hd hv
          go_wp2_with fail
          go_ret
          have e1 : decide ((k : Int) < 1) = false := by simp; omega
          have e2 : decide (25 < (k : Int)) = false := by simp; omega
          exact ⟨by show Ending.returned (.bool (!decide ((k : Int) < 1) && !decide (25 < (k : Int)))) = _; rw [e1, e2]; rfl, hK3⟩
end Go.Proofs.YtigedohalangbaaDoor
