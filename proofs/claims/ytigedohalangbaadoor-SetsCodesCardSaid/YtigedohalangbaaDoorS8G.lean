/- sets.Fit, Leaves, row, the codes; the document's answers of layer 8. -/
import Derived.Test.YtigedohalangbaaDoorS8F
import Derived.Test.YtigedohalangbaaDoorHd
import Derived.IntWalk
import Derived.Maps.AppendAt
import Derived.Deep.LoopGhost
namespace Go.Proofs.YtigedohalangbaaDoor
open Go.RowKit
set_option linter.unusedVariables false
set_option linter.unusedSimpArgs false

def fitB (a1 a2 b1 b2 : Int) : Bool := decide (a1 = b1) && decide (a2 = b2)
theorem fit_any (a0 a1 a2 a3 a4 a5 b0 b1 b2 b3 : Int) (bb : Bool) (w : World) (h : fitB a1 a2 b1 b2 = bb) :
    Calls Tryd.prog 13 #[.agg #[.int .u32 a0, .int .i64 a1, .int .i64 a2, .int .i64 a3, .int .i64 a4, .int .i64 a5], .agg #[.int .u32 b0, .int .i64 b1, .int .i64 b2, .int .i64 b3]] w fun e w' => e = .returned (.bool bb) ∧ Below w.heap.size w w' := by
  unfold fitB at h
  by_cases h1 : a1 = b1
  · subst h1
    rw [show decide (a1 = a1) = true by simp, Bool.true_and] at h
    by_cases h2 : a2 = b2
    · subst h2
      rw [show decide (a2 = a2) = true by simp] at h
      subst h
      have e1 : (a1 == a1) = true := by simp
      have e2 : (a2 == a2) = true := by simp
      go_enter Tryd.func13, Tryd.ntmps13
      go_wp2_with fail
      go_ret
      exact ⟨rfl, ((Below.refl _ w).alloc (Nat.le_refl _) _).alloc (by simp) _⟩
    · rw [show decide (a2 = b2) = false by simpa using h2] at h
      subst h
      have e1 : (a1 == a1) = true := by simp
      have e2 : (a2 == b2) = false := by simpa using h2
      go_enter Tryd.func13, Tryd.ntmps13
      go_wp2_with fail
      go_ret
      exact ⟨rfl, ((Below.refl _ w).alloc (Nat.le_refl _) _).alloc (by simp) _⟩
  · rw [show decide (a1 = b1) = false by simpa using h1, Bool.false_and] at h
    subst h
    have e1 : (a1 == b1) = false := by simpa using h1
    go_enter Tryd.func13, Tryd.ntmps13
    go_wp2_with fail
    go_ret
    exact ⟨rfl, ((Below.refl _ w).alloc (Nat.le_refl _) _).alloc (by simp) _⟩
def lvN (h : Int) : Int := if 1 ≤ h ∧ h ≤ 25 then 2 ^ h.toNat else 0
theorem leaves_any (b0 b1 b2 h v : Int) (w : World) (hv : lvN h = v) :
    Calls Tryd.prog 14 #[.agg #[.int .u32 b0, .int .i64 b1, .int .i64 b2, .int .i64 h]] w fun e w' => e = .returned (.int .u64 v) ∧ Below w.heap.size w w' := by
  unfold lvN at hv
  by_cases h1 : h < 1
  · rw [if_neg (by omega)] at hv
    subst hv
    go_enter Tryd.func14, Tryd.ntmps14
    go_wp2_with fail
    go_ret
    exact ⟨rfl, (Below.refl _ w).alloc (Nat.le_refl _) _⟩
  · by_cases h2 : h > 25
    · rw [if_neg (by omega)] at hv
      subst hv
      go_enter Tryd.func14, Tryd.ntmps14
      go_wp2_with fail
      go_ret
      exact ⟨rfl, (Below.refl _ w).alloc (Nat.le_refl _) _⟩
    · rw [if_pos (by omega)] at hv
      obtain ⟨k, rfl⟩ : ∃ k : Nat, h = k := ⟨h.toNat, by omega⟩
      have hk : k < 26 := by omega
      have hd : ∀ k, k < 26 → (2 : Int) ^ k < 18446744073709551616 := by decide
      have hx := hd k hk
      have hx0 : (0 : Int) ≤ 2 ^ k := Int.le_of_lt (Int.pow_pos (by decide))
      rw [show (k : Int).toNat = k by simp] at hv
      rw [hv] at hx hx0
      have HV := Lib.hid hv
      clear hv hd
      go_enter Tryd.func14, Tryd.ntmps14
      go_wp2_with fail
      have hw : IntKind.u64.wrap (2 ^ k) = v := by rw [HV.out]; exact IntWalk.u64_in _ (by omega)
      rw [hw]
      go_ret
      exact ⟨rfl, (Below.refl _ w).alloc (Nat.le_refl _) _⟩

/-! ### The codes -/
theorem inf_u32 : (Tryd.prog.info? 22).map (fun i => (i.zero, i.size, i.bytes)) = some (some (.int .u32 0), 1, 4) := by kernel_rfl
def rowL (f : Int) (n : Nat) : List Int := (List.range n).map fun i : Nat => f + (i : Int)
theorem rowL_len (f : Int) (n : Nat) : (rowL f n).length = n := by simp [rowL]
theorem rowL_succ (f : Int) (n : Nat) : rowL f n ++ [f + (n : Int)] = rowL f (n + 1) := by simp [rowL, List.range_succ]
theorem gt_rowL (f : Int) (n i : Nat) (h : i < n) : gt (rowL f n) i = f + (i : Int) := by
  simp [gt, rowL, List.getD_eq_getElem?_getD, h]
def CodePost (w : World) (l : List Int) (n : Nat) (e : Ending) (w' : World) : Prop := ∃ A c, e = .returned (.slice A n c) ∧ l.length = n ∧ Own w' w.heap.size 22 .u32 (.slice A n c) l ∧ Below w.heap.size w w'
theorem row_any (f : Int) (n : Nat) (w : World) (hf : 0 ≤ f) (hn : f + (n : Int) ≤ 4294967296) (hn2 : n ≤ 1000) :
    Calls Tryd.prog 28 #[.int .u32 f, .int .i64 (n : Int)] w (CodePost w (rowL f n) n) := by
  have hmx : (2000 : Nat) ≤ maxLen := by decide
  have hO0 := Own.nil w w.heap.size 22 .u32
  have hK0 : Kept w.heap.size (fun _ => False) w w := Kept.refl _ _ _
  go_enter Tryd.func28, Tryd.ntmps28
  go_wp2_with fail
  go_loopg [5, 8] n (fun g s5 s8 wr => ∃ i : Nat, s8 = .int .i64 i ∧ g = n - i ∧ i ≤ n ∧ Own wr w.heap.size 22 .u32 s5 (rowL f i) ∧ Kept w.heap.size (fun _ => False) w wr)
  case atStart => exact ⟨0, rfl, rfl, Nat.zero_le _, hO0, hK0⟩
  case round =>
    clear hO0 hK0
    obtain ⟨i, rfl, hg, hi, hO, hK⟩ := hrel
    have HG := Lib.hid hg
    clear hg
    have hWs := hK.size
    by_cases hlt : i < n
    · have hltI : (i : Int) < (n : Int) := by omega
      have hiw : f + (i : Int) < 4294967296 := by omega
      obtain ⟨x, hx⟩ : ∃ x, f + (i : Int) = x := ⟨_, rfl⟩
      have HS : Hid (rowL f i ++ [x] = rowL f (i + 1)) := by rw [← hx]; exact rowL_succ f i
      have HL : Hid ((rowL f (i + 1)).length = i + 1) := rowL_len f (i + 1)
      have hRE : Rd (wr.alloc (.cells #[.int .u32 x] 22)) (wr.heap.size + 1) .u32 (some ⟨wr.heap.size, 0, none⟩) [x] := Rd.of_arr (Arr.new wr 22 .u32 [x]) (Nat.lt_succ_self _)
      have hOE := hO.alloc (.cells #[.int .u32 x] 22)
      have hKE : Kept w.heap.size (fun _ => False) w (wr.alloc (.cells #[.int .u32 x] 22)) := hK.alloc _ hWs
      go_wp2_with (at_builtin; refine wpList_app rfl _ _ 37 22 .u32 4 rfl Tryd.underlying37 inf_u32 hOE hRE rfl rfl rfl _ HS.out (i + 1) HL.out (by omega) (by omega) (by simp; omega) ?_; intro A1 c1 w1 hO1 hg1 hf1)
      have hK1 := hKE.grew hOE hg1 (Nat.le_refl _) (by simp; omega)
      go_roundg (n - (i + 1))
      case measure => have := HG.out; omega
      case rel => exact ⟨i + 1, by go_num, rfl, by omega, hO1, hK1⟩
    · have hltI : ¬ (i : Int) < (n : Int) := by omega
      obtain rfl : i = n := by omega
      obtain ⟨A1, c1, hv, _⟩ := hO.form
      rw [rowL_len] at hv
      subst hv
      go_wp2_with fail
      go_ret
      exact ⟨A1, c1, rfl, rowL_len _ _, hO, hK.below⟩
theorem row_N (f N : Int) (n : Nat) (w : World) (hN : N = (n : Int)) (hf : 0 ≤ f) (hn : f + (n : Int) ≤ 4294967296) (hn2 : n ≤ 1000) :
    Calls Tryd.prog 28 #[.int .u32 f, .int .i64 N] w (CodePost w (rowL f n) n) := by
  subst hN
  exact row_any f n w hf hn hn2
def otsL : List Int := rowL 1 16
def treeL : List Int := rowL 5 20 ++ rowL 4026531841 16
theorem otsL_eq : otsL = [1, 2, 3, 4, 5, 6, 7, 8, 9, 10, 11, 12, 13, 14, 15, 16] := by decide
theorem treeL_len : treeL.length = 36 := by decide
theorem otscodes_any (w : World) : Calls Tryd.prog 16 #[] w (CodePost w otsL 16) := by
  have hR := row_N 1 16 16 w rfl (by decide) (by decide) (by decide)
  unfold otsL
  generalize rowL 1 16 = L at hR ⊢
  unfold CodePost at hR ⊢
  go_enter Tryd.func16, Tryd.ntmps16
  go_wp2_with fail
  refine hR.mono ?_
  rintro e w1 ⟨A1, c1, rfl, hl, hO, hb⟩
  clear hR
  have HL := Lib.hid hl
  clear hl
  go_wp2_with fail
  go_ret
  exact ⟨A1, c1, rfl, HL.out, hO, hb⟩
theorem treecodes_any (w : World) : Calls Tryd.prog 17 #[] w (CodePost w treeL 36) := by
  have hmx : (2000 : Nat) ≤ maxLen := by decide
  have hR := row_N 5 20 20 w rfl (by decide) (by decide) (by decide)
  have hR2 := fun w1 => row_N 4026531841 16 16 w1 rfl (by decide) (by decide) (by decide)
  have HT := Lib.hid treeL_len
  unfold treeL at HT ⊢
  generalize rowL 5 20 = L at hR HT ⊢
  generalize rowL 4026531841 16 = M at hR2 HT ⊢
  unfold CodePost at hR hR2 ⊢
  go_enter Tryd.func17, Tryd.ntmps17
  go_wp2_with fail
  refine hR.mono ?_
  rintro e w1 ⟨A1, c1, rfl, hl, hO, hb⟩
  clear hR
  have HL := Lib.hid hl
  clear hl
  go_wp2_with fail
  refine (hR2 w1).mono ?_
  rintro e w2 ⟨A2, c2, rfl, hl2, hO2, hb2⟩
  clear hR2
  have HL2 := Lib.hid hl2
  clear hl2
  have hO1 := hO.below hb2 (Nat.le_refl _)
  have hRd := hO2.rd
  have hb02 := hb.trans (hb2.mono hb.size)
  have hs2 := hb02.size
  clear hO hO2 hb hb2
  go_wp2_with (at_builtin; refine wpList_app rfl _ _ 37 22 .u32 4 rfl Tryd.underlying37 inf_u32 hO1 hRd rfl rfl HL2.out _ rfl 36 HT.out (by omega) (by omega) hs2 ?_; intro A3 c3 w3 hO3 hg3 hf3)
  have hK3 := (Kept.of_below (S := fun _ => False) hb02).trans (hO1.grewK hg3 hs2) (Nat.le_refl _) (fun _ _ h => h)
  go_ret
  exact ⟨A3, c3, rfl, HT.out, hO3, hK3.below⟩

/-! ### The document's answers -/
theorem rsize_any (j : Nat) (N : Int) (hN : N = (j : Int)) (hj : j < 1000) (w : World) :
    Calls Tryd.prog 24 #[.int .i64 N] w fun e w' => e = .returned (.tuple #[.int .i64 ((j / 2 : Nat) : Int), .int .i64 (sN j)]) ∧ w = w' := by
  subst hN
  unfold sN
  by_cases h : j % 2 = 0
  · rw [if_pos h]
    have h1 : ((j : Int) % 2 == 1) = false := by simp; omega
    have h1' : (j : Int) % 2 = 0 := by omega
    have h2 : (j : Int) / 2 = ((j / 2 : Nat) : Int) := by omega
    obtain ⟨κ, hκ⟩ : ∃ κ, j / 2 = κ := ⟨_, rfl⟩
    have hκb : κ < 1000 := by omega
    rw [hκ] at h2 ⊢
    clear h hκ
    go_enter Tryd.func24, Tryd.ntmps24
    go_wp2_with fail
    go_ret2
    exact ⟨rfl, rfl⟩
  · rw [if_neg h]
    have h1' : (j : Int) % 2 = 1 := by omega
    have h2 : (j : Int) / 2 = ((j / 2 : Nat) : Int) := by omega
    obtain ⟨κ, hκ⟩ : ∃ κ, j / 2 = κ := ⟨_, rfl⟩
    have hκb : κ < 1000 := by omega
    rw [hκ] at h2 ⊢
    clear h hκ
    go_enter Tryd.func24, Tryd.ntmps24
    go_wp2_with fail
    go_ret2
    exact ⟨rfl, rfl⟩
set_option maxHeartbeats 1000000 in
theorem rots_any (code : Int) (w : World) (hc : 0 ≤ code ∧ code < 4294967296) :
    Calls Tryd.prog 10 #[.int .u32 code] w (OPost code w) := by
  obtain ⟨hc0, hc1⟩ := hc
  unfold OPost
  obtain ⟨q, hq⟩ : ∃ q, w.heap.size = q := ⟨_, rfl⟩
  by_cases h : oIn code
  · have hE : oE code = 0 := by unfold oE; rw [if_pos h]
    have hV := otsV_eq code h
    unfold otsV at hV
    rw [hE]
    obtain ⟨i, hi⟩ : ∃ i, oI code = i := ⟨_, rfl⟩
    rw [hi] at hV
    have hci : code = (i : Int) + 1 := by rw [← hi]; unfold oI; unfold oIn at h; omega
    have h16 : i < 16 := by unfold oIn at h; omega
    obtain ⟨j, hj⟩ : ∃ j, i / 4 = j := ⟨_, rfl⟩
    obtain ⟨r, hr⟩ : ∃ r, i % 4 = r := ⟨_, rfl⟩
    obtain ⟨n, hn⟩ : ∃ n, sN j = n := ⟨_, rfl⟩
    obtain ⟨wd, hwd⟩ : ∃ wd, wN r = wd := ⟨_, rfl⟩
    obtain ⟨κ, hκ⟩ : ∃ κ, j / 2 = κ := ⟨_, rfl⟩
    obtain ⟨u, hu⟩ : ∃ u, uOf n wd = u := ⟨_, rfl⟩
    obtain ⟨v, hv⟩ : ∃ v, vOf n wd = v := ⟨_, rfl⟩
    have hj4 : j < 4 := by omega
    have hr4 : r < 4 := by omega
    have hr4I : (r : Int) < 4 := by omega
    have hww := wN_W r hr4
    have hnb := sN_bd j
    have hub := uv_bd j hj4 r hr4
    have hS := rsize_any j ((code - 1) / 4) (by omega) (by omega)
    rw [hn, hκ] at hS
    rw [hwd] at hww
    rw [hn] at hnb
    have hsh := fun w => rshape_any n wd w hww hnb.1 hnb.2
    unfold ShapePost at hsh
    rw [hu, hv] at hsh
    rw [hn, hwd, hu, hv] at hub
    have hvb := hub.2
    have hub := hub.1
    obtain ⟨sm, hsm⟩ : ∃ sm, u + v = sm := ⟨_, rfl⟩
    have hsum2 : (u : Int) + (v : Int) = (sm : Int) := by omega
    have hsb : sm ≤ 2000 := by omega
    have hnc := World.cell?_alloc_new
    obtain ⟨W, hW⟩ : ∃ W, (w.alloc (.cells #[.int .u32 0, .int .i64 0, .int .i64 0, .int .i64 0, .int .i64 0, .int .i64 0] 24)).alloc (.cells #[.int .i64 1, .int .i64 2, .int .i64 4, .int .i64 8] 3) = W := ⟨_, rfl⟩
    have hcell : W.cell? ⟨q + 1, r, none⟩ = some (.int .i64 wd) := by
      have hA := (Arr.new (w.alloc (.cells #[.int .u32 0, .int .i64 0, .int .i64 0, .int .i64 0, .int .i64 0, .int .i64 0] 24)) 3 .i64 [1, 2, 4, 8]).cell r (by exact hr4)
      rw [World.size_alloc] at hA
      rw [← hW, ← hq, ← hwd, ← wN_eq r hr4]
      exact hA
    have hbW : Below q w W := by rw [← hW, ← hq]; exact ((Below.refl _ w).alloc (Nat.le_refl _) _).alloc (by simp) _
    have hO : W.heap[q]? = some (.cells #[.int .u32 0, .int .i64 0, .int .i64 0, .int .i64 0, .int .i64 0, .int .i64 0] 24) := by
      rw [← hW, ← hq]; exact (Below.heap_alloc _ _ _ (by simp)).trans (heap_alloc_new w _)
    have hsz : W.heap.size = q + 2 := by rw [← hW, ← hq]; simp
    have hq1 : (code - 1) % 4 = (r : Int) := by omega
    rw [show i / 8 = j / 2 by omega, hj, hr, hn, hwd, hκ, hu, hv, hsm, ← hci] at hV
    rw [← hV]
    have HJ := Lib.hid (show i / 4 = j ∧ i % 4 = r ∧ code = (i : Int) + 1 from ⟨hj, hr, hci⟩)
    have hcg : 1 ≤ code := by omega
    have hcl : code ≤ 16 := by omega
    rw [hq]
    have HQ := Lib.hid hq
    clear hV hn hwd hκ hu hv hj hr hci hi hE h hnc hsm
    go_enter Tryd.func10, Tryd.ntmps10
    go_wp2_with fail
    refine (hS _).mono ?_
    rintro e w1 ⟨rfl, rfl⟩
    go_wp2_with fail
    refine (hsh W).mono ?_
    rintro e w1 ⟨rfl, hb⟩
    have hO1 := (hb.block q (by omega)).trans hO
    have hB1 : Below q w w1 := hbW.trans (hb.mono (by omega))
    clear hb hO hbW hcell hsz hW
    have g0 : w1.cell? ⟨q, 0, none⟩ = some (.int .u32 0) := by simp [World.cell?, hO1]
    have g1 : w1.cell? ⟨q, 1, none⟩ = some (.int .i64 0) := by simp [World.cell?, hO1]
    have g2 : w1.cell? ⟨q, 2, none⟩ = some (.int .i64 0) := by simp [World.cell?, hO1]
    have g3 : w1.cell? ⟨q, 3, none⟩ = some (.int .i64 0) := by simp [World.cell?, hO1]
    have g4 : w1.cell? ⟨q, 4, none⟩ = some (.int .i64 0) := by simp [World.cell?, hO1]
    have g5 : w1.cell? ⟨q, 5, none⟩ = some (.int .i64 0) := by simp [World.cell?, hO1]
    have z : ∀ k, w1.frozen? ⟨q, k, none⟩ = false := fun k => by simp [World.frozen?, hO1]
    have z0 := z 0
    have z1 := z 1
    have z2 := z 2
    have z3 := z 3
    have z4 := z 4
    have z5 := z 5
    clear z
    go_wp2_with fail
    have r1 := set6_row hO1 (.int .u32 (code)) (.int .i64 (κ)) (.int .i64 (n)) (.int .i64 (wd)) (.int .i64 (sm)) (.int .i64 (16 - (wd : Int) * (v : Int)))
    have hk4 := ((((((Kept.refl q (fun g => g = q) w1).set q 0 (.int .u32 (code)) (.inr rfl)).set q 1 (.int .i64 (κ)) (.inr rfl)).set q 2 (.int .i64 (n)) (.inr rfl)).set q 3 (.int .i64 (wd)) (.inr rfl)).set q 4 (.int .i64 (sm)) (.inr rfl)).set q 5 (.int .i64 (16 - (wd : Int) * (v : Int))) (.inr rfl)
    generalize ((((((w1.setCell ⟨q, 0, none⟩ (.int .u32 (code))).setCell ⟨q, 1, none⟩ (.int .i64 (κ))).setCell ⟨q, 2, none⟩ (.int .i64 (n))).setCell ⟨q, 3, none⟩ (.int .i64 (wd))).setCell ⟨q, 4, none⟩ (.int .i64 (sm))).setCell ⟨q, 5, none⟩ (.int .i64 (16 - (wd : Int) * (v : Int)))) = w4 at r1 hk4 ⊢
    have hbel : Below q w w4 := ((Kept.of_below (S := fun _ => False) hB1).trans hk4 (Nat.le_refl _) (fun k hk h => by omega)).below
    have c0 : w4.cell? ⟨q, 0, none⟩ = some (.int .u32 (code)) := by simp [World.cell?, r1]
    have c1 : w4.cell? ⟨q, 1, none⟩ = some (.int .i64 (κ)) := by simp [World.cell?, r1]
    have c2 : w4.cell? ⟨q, 2, none⟩ = some (.int .i64 (n)) := by simp [World.cell?, r1]
    have c3 : w4.cell? ⟨q, 3, none⟩ = some (.int .i64 (wd)) := by simp [World.cell?, r1]
    have c4 : w4.cell? ⟨q, 4, none⟩ = some (.int .i64 (sm)) := by simp [World.cell?, r1]
    have c5 : w4.cell? ⟨q, 5, none⟩ = some (.int .i64 (16 - (wd : Int) * (v : Int))) := by simp [World.cell?, r1]
    clear r1 hk4 g0 z0 g1 z1 g2 z2 g3 z3 g4 z4 g5 z5
    refine bodyPost_ret (v := .tuple #[.agg #[.int .u32 (code), .int .i64 (κ), .int .i64 (n), .int .i64 (wd), .int .i64 (sm), .int .i64 (16 - (wd : Int) * (v : Int))], .int .i64 0]) (by simp [results, Tryd.results10, go_sem, c0, c1, c2, c3, c4, c5]) rfl ⟨rfl, hbel⟩
  · have h0 : o0 code = 0 := by unfold o0; rw [if_neg h]
    have h1 : o1 code = 0 := by unfold o1; rw [if_neg h]
    have h2 : o2 code = 0 := by unfold o2; rw [if_neg h]
    have h3 : o3 code = 0 := by unfold o3; rw [if_neg h]
    have h4 : o4 code = 0 := by unfold o4; rw [if_neg h]
    have h5 : o5 code = 0 := by unfold o5; rw [if_neg h]
    have hE : oE code = 4 := by unfold oE; rw [if_neg h]
    rw [h0, h1, h2, h3, h4, h5, hE, hq]
    clear h0 h1 h2 h3 h4 h5 hE
    obtain ⟨W, hW⟩ : ∃ W, w.alloc (.cells #[.int .u32 0, .int .i64 0, .int .i64 0, .int .i64 0, .int .i64 0, .int .i64 0] 24) = W := ⟨_, rfl⟩
    have hO1 : W.heap[q]? = some (.cells #[.int .u32 0, .int .i64 0, .int .i64 0, .int .i64 0, .int .i64 0, .int .i64 0] 24) := by rw [← hW, ← hq]; exact heap_alloc_new w _
    have hB1 : Below q w W := by rw [← hW, ← hq]; exact (Below.refl _ w).alloc (Nat.le_refl _) _
    have g0 : W.cell? ⟨q, 0, none⟩ = some (.int .u32 0) := by simp [World.cell?, hO1]
    have g1 : W.cell? ⟨q, 1, none⟩ = some (.int .i64 0) := by simp [World.cell?, hO1]
    have g2 : W.cell? ⟨q, 2, none⟩ = some (.int .i64 0) := by simp [World.cell?, hO1]
    have g3 : W.cell? ⟨q, 3, none⟩ = some (.int .i64 0) := by simp [World.cell?, hO1]
    have g4 : W.cell? ⟨q, 4, none⟩ = some (.int .i64 0) := by simp [World.cell?, hO1]
    have g5 : W.cell? ⟨q, 5, none⟩ = some (.int .i64 0) := by simp [World.cell?, hO1]
    have z : ∀ k, W.frozen? ⟨q, k, none⟩ = false := fun k => by simp [World.frozen?, hO1]
    have z0 := z 0
    have z1 := z 1
    have z2 := z 2
    have z3 := z 3
    have z4 := z 4
    have z5 := z 5
    clear z
    by_cases hlt : code < 1
    · clear h
      go_enter Tryd.func10, Tryd.ntmps10
      go_wp2_with fail
      have r1 := set6_row hO1 (.int .u32 (0)) (.int .i64 (0)) (.int .i64 (0)) (.int .i64 (0)) (.int .i64 (0)) (.int .i64 (0))
      have hk4 := ((((((Kept.refl q (fun g => g = q) W).set q 0 (.int .u32 (0)) (.inr rfl)).set q 1 (.int .i64 (0)) (.inr rfl)).set q 2 (.int .i64 (0)) (.inr rfl)).set q 3 (.int .i64 (0)) (.inr rfl)).set q 4 (.int .i64 (0)) (.inr rfl)).set q 5 (.int .i64 (0)) (.inr rfl)
      generalize ((((((W.setCell ⟨q, 0, none⟩ (.int .u32 (0))).setCell ⟨q, 1, none⟩ (.int .i64 (0))).setCell ⟨q, 2, none⟩ (.int .i64 (0))).setCell ⟨q, 3, none⟩ (.int .i64 (0))).setCell ⟨q, 4, none⟩ (.int .i64 (0))).setCell ⟨q, 5, none⟩ (.int .i64 (0))) = w4 at r1 hk4 ⊢
      have hbel : Below q w w4 := ((Kept.of_below (S := fun _ => False) hB1).trans hk4 (Nat.le_refl _) (fun k hk h => by omega)).below
      have c0 : w4.cell? ⟨q, 0, none⟩ = some (.int .u32 (0)) := by simp [World.cell?, r1]
      have c1 : w4.cell? ⟨q, 1, none⟩ = some (.int .i64 (0)) := by simp [World.cell?, r1]
      have c2 : w4.cell? ⟨q, 2, none⟩ = some (.int .i64 (0)) := by simp [World.cell?, r1]
      have c3 : w4.cell? ⟨q, 3, none⟩ = some (.int .i64 (0)) := by simp [World.cell?, r1]
      have c4 : w4.cell? ⟨q, 4, none⟩ = some (.int .i64 (0)) := by simp [World.cell?, r1]
      have c5 : w4.cell? ⟨q, 5, none⟩ = some (.int .i64 (0)) := by simp [World.cell?, r1]
      clear r1 hk4 g0 z0 g1 z1 g2 z2 g3 z3 g4 z4 g5 z5
      refine bodyPost_ret (v := .tuple #[.agg #[.int .u32 (0), .int .i64 (0), .int .i64 (0), .int .i64 (0), .int .i64 (0), .int .i64 (0)], .int .i64 4]) (by simp [results, Tryd.results10, go_sem, c0, c1, c2, c3, c4, c5]) rfl ⟨rfl, hbel⟩
    · have hgt : 16 < code := by unfold oIn at h; omega
      clear h
      go_enter Tryd.func10, Tryd.ntmps10
      go_wp2_with fail
      have r1 := set6_row hO1 (.int .u32 (0)) (.int .i64 (0)) (.int .i64 (0)) (.int .i64 (0)) (.int .i64 (0)) (.int .i64 (0))
      have hk4 := ((((((Kept.refl q (fun g => g = q) W).set q 0 (.int .u32 (0)) (.inr rfl)).set q 1 (.int .i64 (0)) (.inr rfl)).set q 2 (.int .i64 (0)) (.inr rfl)).set q 3 (.int .i64 (0)) (.inr rfl)).set q 4 (.int .i64 (0)) (.inr rfl)).set q 5 (.int .i64 (0)) (.inr rfl)
      generalize ((((((W.setCell ⟨q, 0, none⟩ (.int .u32 (0))).setCell ⟨q, 1, none⟩ (.int .i64 (0))).setCell ⟨q, 2, none⟩ (.int .i64 (0))).setCell ⟨q, 3, none⟩ (.int .i64 (0))).setCell ⟨q, 4, none⟩ (.int .i64 (0))).setCell ⟨q, 5, none⟩ (.int .i64 (0))) = w4 at r1 hk4 ⊢
      have hbel : Below q w w4 := ((Kept.of_below (S := fun _ => False) hB1).trans hk4 (Nat.le_refl _) (fun k hk h => by omega)).below
      have c0 : w4.cell? ⟨q, 0, none⟩ = some (.int .u32 (0)) := by simp [World.cell?, r1]
      have c1 : w4.cell? ⟨q, 1, none⟩ = some (.int .i64 (0)) := by simp [World.cell?, r1]
      have c2 : w4.cell? ⟨q, 2, none⟩ = some (.int .i64 (0)) := by simp [World.cell?, r1]
      have c3 : w4.cell? ⟨q, 3, none⟩ = some (.int .i64 (0)) := by simp [World.cell?, r1]
      have c4 : w4.cell? ⟨q, 4, none⟩ = some (.int .i64 (0)) := by simp [World.cell?, r1]
      have c5 : w4.cell? ⟨q, 5, none⟩ = some (.int .i64 (0)) := by simp [World.cell?, r1]
      clear r1 hk4 g0 z0 g1 z1 g2 z2 g3 z3 g4 z4 g5 z5
      refine bodyPost_ret (v := .tuple #[.agg #[.int .u32 (0), .int .i64 (0), .int .i64 (0), .int .i64 (0), .int .i64 (0), .int .i64 (0)], .int .i64 4]) (by simp [results, Tryd.results10, go_sem, c0, c1, c2, c3, c4, c5]) rfl ⟨rfl, hbel⟩

end Go.Proofs.YtigedohalangbaaDoor
