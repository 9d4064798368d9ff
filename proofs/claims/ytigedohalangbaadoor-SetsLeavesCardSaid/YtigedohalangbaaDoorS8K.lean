/- SetsFit and SetsLeaves, walked. Conditions: the tables stand as they were laid. -/
import Derived.Test.YtigedohalangbaaDoorS8J
namespace Go.Proofs.YtigedohalangbaaDoor
open Go.RowKit
set_option linter.unusedVariables false
set_option linter.unusedSimpArgs false

def cntF (k1 k2 : Int) : Nat → Nat
  | 0 => 0
  | i + 1 => cntF k1 k2 i + if fitB k1 k2 (t1 (gt treeL i)) (t2 (gt treeL i)) then 1 else 0
theorem cntF_le (k1 k2 : Int) : ∀ i, cntF k1 k2 i ≤ i
  | 0 => Nat.le_refl _
  | i + 1 => by have := cntF_le k1 k2 i; unfold cntF; split <;> omega
theorem cntF_9 : ∀ i : Nat, i < 16 → cntF (o1 ((i : Int) + 1)) (o2 ((i : Int) + 1)) 36 = 9 ∧ (o1 ((i : Int) + 1) = 0 ∨ o1 ((i : Int) + 1) = 1) ∧ (o2 ((i : Int) + 1) = 24 ∨ o2 ((i : Int) + 1) = 32) ∧ oE ((i : Int) + 1) = 0 := by decide +kernel
theorem treeL_ok : ∀ i, i < 36 → tE (gt treeL i) = 0 ∧ 0 ≤ gt treeL i ∧ gt treeL i < 4294967296 := by decide +kernel
set_option maxHeartbeats 4000000 in
theorem fit8_walk (c : Int) (w : World) (B : Nat) (hT : STab w B) (hB : B ≤ w.heap.size) (hc : 0 ≤ c ∧ c < 256) :
    Calls Tryd.prog 5 #[.int .u8 c] w fun e w' => e = .returned (.bool true) ∧ Below w.heap.size w w' := by
  obtain ⟨j, hj⟩ : ∃ j : Nat, c % 16 = (j : Int) := ⟨(c % 16).toNat, by omega⟩
  have hj16 : j < 16 := by omega
  obtain ⟨hc0, hc1⟩ := hc
  obtain ⟨h9, hk1, hk2, hE⟩ := cntF_9 j hj16
  have hO := fun v (hk : Below w.heap.size w v) => ots_any ((j : Int) + 1) v B (hT.below (hk.mono hB)) (Nat.le_trans hB hk.size) (by omega)
  have hTr := fun i (hi : i < 36) v (hk : Below w.heap.size w v) => tree_any (gt treeL i) v B (hT.below (hk.mono hB)) (Nat.le_trans hB hk.size) (treeL_ok i hi).2
  unfold OPost at hO
  rw [hE] at hO
  generalize o0 ((j : Int) + 1) = x0 at hO
  generalize o1 ((j : Int) + 1) = x1 at hO hk1 h9
  generalize o2 ((j : Int) + 1) = x2 at hO hk2 h9
  generalize o3 ((j : Int) + 1) = x3 at hO
  generalize o4 ((j : Int) + 1) = x4 at hO
  generalize o5 ((j : Int) + 1) = x5 at hO
  have H9 := Lib.hid h9
  have HK := Lib.hid (And.intro hk1 hk2)
  obtain ⟨y, hy⟩ : ∃ y, (j : Int) + 1 = y := ⟨_, rfl⟩
  have hy2 : 1 + (j : Int) = y := by omega
  rw [hy] at hO
  clear h9 hk1 hk2 hE hy
  have hCa := awake8_any w B hT hB
  go_enter Tryd.func5, Tryd.ntmps5
  go_wp2_with fail
  refine hCa.mono ?_
  rintro e v0 ⟨rfl, hK⟩
  clear hCa
  go_wp2_with fail
  refine (hO _ hK).mono ?_
  rintro e v1 ⟨rfl, hb⟩
  have hK := hK.trans (hb.mono hK.size)
  clear hb hO hy2 hj
  go_wp2_with fail
  obtain ⟨u1, hu1⟩ : ∃ u1, v1.alloc (.cells #[.int .u32 x0, .int .i64 x1, .int .i64 x2, .int .i64 x3, .int .i64 x4, .int .i64 x5] 24) = u1 := ⟨_, rfl⟩
  have hb : Below v1.heap.size v1 u1 := by rw [← hu1]; exact (Below.refl _ v1).alloc (Nat.le_refl _) _
  have r1 : u1.heap[v1.heap.size]? = some (.cells #[.int .u32 x0, .int .i64 x1, .int .i64 x2, .int .i64 x3, .int .i64 x4, .int .i64 x5] 24) := by rw [← hu1]; exact heap_alloc_new v1 _
  rw [hu1]
  have hK := hK.trans (hb.mono hK.size)
  obtain ⟨p, hp⟩ : ∃ p, v1.heap.size = p := ⟨_, rfl⟩
  rw [hp] at r1 ⊢
  have l1 := (Array.getElem?_eq_some_iff.1 r1).1
  clear hu1 hp hb
  refine (treecodes_any u1).mono ?_
  rintro e v2 ⟨A, ca, rfl, hl, hOw, hb⟩
  have hR := hOw.rd
  have hK := hK.trans (hb.mono hK.size)
  have r1 := (hb.block _ l1).trans r1
  have l1 : p < v2.heap.size := (Array.getElem?_eq_some_iff.1 r1).1
  clear hb hOw
  have HL := Lib.hid hl
  clear hl
  go_wp2_with fail
  go_loopg [6, 7] 36 (fun g s6 s7 wr => ∃ i : Nat, s7 = .int .i64 i ∧ g = 36 - i ∧ i ≤ 36 ∧ s6 = .int .i64 (cntF x1 x2 i : Nat) ∧ Below v2.heap.size v2 wr)
  case atStart => exact ⟨0, rfl, rfl, Nat.zero_le _, rfl, Below.refl _ _⟩
  case round =>
    obtain ⟨i, rfl, hg, hi, rfl, hK2⟩ := hrel
    have HG := Lib.hid hg
    clear hg
    have hKw := hK.trans (hK2.mono hK.size)
    have r1 := (hK2.block _ l1).trans r1
    obtain ⟨n, hn⟩ : ∃ n, cntF x1 x2 i = n := ⟨_, rfl⟩
    have hn36 := cntF_le x1 x2 i
    rw [hn] at hn36 ⊢
    by_cases hlt : i < 36
    · have hltI : (i : Int) < 36 := by omega
      have hT2 := hTr i hlt wr hKw
      unfold TPost at hT2
      have hsuc : cntF x1 x2 (i + 1) = n + if fitB x1 x2 (t1 (gt treeL i)) (t2 (gt treeL i)) then 1 else 0 := by rw [cntF, hn]
      have hte := (treeL_ok i hlt).1
      rw [hte] at hT2
      obtain ⟨ad, rfl, _, hcell⟩ := hR.at_ (i := i) (by rw [HL.out]; exact hlt)
      have hcell := (World.cell?_of_block (hK2.block _ (World.block_lt_of_cell? _ _ hcell))).trans hcell
      generalize t0 (gt treeL i) = y0 at hT2
      generalize t1 (gt treeL i) = y1 at hT2 hsuc
      generalize t2 (gt treeL i) = y2 at hT2 hsuc
      generalize t3 (gt treeL i) = y3 at hT2
      generalize gt treeL i = d at hT2 hcell
      have HS := Lib.hid hsuc
      have HN := Lib.hid hn
      clear hsuc hn hte hTr
      go_wp2_with fail
      refine hT2.mono ?_
      rintro e v3 ⟨rfl, hb⟩
      clear hT2 hcell
      have r1 := (hb.block _ (Array.getElem?_eq_some_iff.1 r1).1).trans r1
      have l3 : p < v3.heap.size := (Array.getElem?_eq_some_iff.1 r1).1
      have hK3 := hK2.trans (hb.mono hK2.size)
      obtain ⟨a0, a1, a2, a3, a4, a5⟩ := cells6 r1
      clear hb
      go_wp2_with fail
      obtain ⟨bb, hbb⟩ : ∃ bb, fitB x1 x2 y1 y2 = bb := ⟨_, rfl⟩
      refine (fit_any _ _ _ _ _ _ _ _ _ _ bb _ hbb).mono ?_
      rintro e v4 ⟨rfl, hb⟩
      have hK4 := (hK3.alloc hK3.size (.cells #[.int .u32 y0, .int .i64 y1, .int .i64 y2, .int .i64 y3] 26)).trans (hb.mono (by have := hK3.size; simp; omega))
      have HB := Lib.hid hbb
      clear hb hbb a0 a1 a2 a3 a4 a5 hK3 r1
      rcases bb with _ | _
      all_goals
        go_wp2_with fail
        go_roundg (36 - (i + 1))
        case measure => have := HG.out; omega
        case rel => exact ⟨i + 1, by go_num, rfl, by omega, by rw [HS.out, HB.out]; first | rfl | (simp; done), hK4⟩
    · have hltI : ¬ (i : Int) < 36 := by omega
      obtain rfl : i = 36 := by omega
      obtain rfl : n = 9 := hn.symm.trans H9.out
      obtain ⟨a0, a1, a2, a3, a4, a5⟩ := cells6 r1
      rcases HK.out with ⟨rfl | rfl, rfl | rfl⟩
      all_goals
        clear hn hTr H9
        go_wp2_with fail
        go_ret
        exact ⟨rfl, hKw⟩
end Go.Proofs.YtigedohalangbaaDoor
