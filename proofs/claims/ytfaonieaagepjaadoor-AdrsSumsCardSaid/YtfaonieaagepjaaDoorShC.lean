import Derived.Test.YtfaonieaagepjaaDoorShB
import Derived.Test.YtfaonieaagepjaaDoorKecC
namespace Go.Proofs.YtfaonieaagepjaaDoor
open Go.RowKit
set_option maxRecDepth 100000
set_option linter.unusedVariables false
set_option linter.unusedSimpArgs false

/-! ### A block into a state -/
def mixN (s l : List Int) : Nat → List Int
  | 0 => s
  | j + 1 => st (mixN s l j) (j / 8) (bits .xor .u64 (gt (mixN s l j) (j / 8)) (IntKind.u64.wrap (gt l j * 2 ^ (8 * (j % 8)))))
theorem mixN_len (s l : List Int) (j : Nat) : (mixN s l j).length = s.length := by
  induction j with
  | zero => rfl
  | succ j ih => rw [mixN, st_len, ih]
theorem mixN_W {s : List Int} (l : List Int) (h : Ws s) (j : Nat) : Ws (mixN s l j) := by
  induction j with
  | zero => exact h
  | succ j ih => exact ih.st _ (W64_xor _ _)
set_option maxRecDepth 4000 in
theorem mix_any (s l : List Int) (A : Option Addr) (c : Nat) (w : World) (hs : s.length = 25) (hw : Ws s) (hl : l.length = 136) (hr : Rd w w.heap.size .u8 A l) (hb : ∀ i, 0 ≤ gt l i ∧ gt l i < 256) (ht : KTab w) :
    Calls Tryd.prog 81 #[.agg (U .u64 s), .slice A 136 c] w fun e w' => e = .returned (.agg (U .u64 (permute (mixN s l 136)))) ∧ Below w.heap.size w w' := by
  have hz := World.block_lt_of_cell? w _ (ht.2 0 (by decide))
  have hz0 := World.block_lt_of_cell? w _ (ht.1 0 (by decide))
  go_enter Tryd.func81, Tryd.ntmps81
  have hA0 := Arr.new w 100 .u64 s
  have hK0 : Kept w.heap.size (fun _ => False) w (w.alloc (.cells (U .u64 s) 100)) := (Kept.refl _ _ _).alloc _ (by omega)
  have hR0 := hr.alloc (Nat.le_refl _) (.cells (U .u64 s) 100)
  go_wp2_with fail
  obtain ⟨B, hB⟩ : ∃ B, w.heap.size = B := ⟨_, rfl⟩
  rw [hB] at hA0 hK0 hR0 hz hz0 ⊢
  have hsz : (w.alloc (.cells (U .u64 s) 100)).heap.size = B + 1 := by simp [hB]
  generalize w.alloc (.cells (U .u64 s) 100) = w1 at hA0 hK0 hR0 hsz ⊢
  have hA1 := hA0.alloc (.cells (U .u64 (List.replicate 25 0)) 100)
  have hN1 := Arr.new w1 100 .u64 (List.replicate 25 0)
  have hK1 := hK0.alloc (.cells (U .u64 (List.replicate 25 0)) 100) (by omega)
  have hR1 := hR0.alloc (by omega) (.cells (U .u64 (List.replicate 25 0)) 100)
  rw [hsz] at hN1
  rw [← zero25] at hA1 hN1 hK1 hR1
  clear hA0 hK0 hR0 hsz hr
  have hB' := Lib.hid hB
  clear hB
  generalize w1.alloc _ = w2 at hA1 hN1 hK1 hR1 ⊢
  go_loopw [9] (fun i wr => ∃ j : Nat, i = .int .i64 j ∧ j ≤ 136 ∧ Arr wr B 100 .u64 (mixN s l j) ∧ Arr wr (B + 1) 100 .u64 (List.replicate 25 0) ∧ Kept B (fun _ => False) w wr ∧ Rd wr B .u8 A l) (fun i _ => (136 - intOf i).toNat)
  case atStart => exact ⟨0, rfl, by omega, hA1, hN1, hK1, hR1⟩
  case round =>
    clear hA1 hN1 hK1 hR1
    obtain ⟨j, rfl, hj, hA, hN, hK, hR⟩ := hrel
    by_cases hlt : j < 136
    · have hlt' : (j : Int) < 136 := by omega
      obtain ⟨ad, rfl, hadB, hca⟩ := hR.at_ (i := j) (by omega)
      obtain ⟨q, hq⟩ : ∃ q : Nat, j / 8 = q := ⟨_, rfl⟩
      obtain ⟨r, hr⟩ : ∃ r : Nat, j % 8 = r := ⟨_, rfl⟩
      obtain ⟨m, hm⟩ : ∃ m : Nat, 8 * r = m := ⟨_, rfl⟩
      have hq25 : q < 25 := by omega
      have hqI : (q : Int) < 25 := by omega
      have hm64 : m < 64 := by omega
      have f1 : IntKind.i64.wrap ((j : Int) / 8) = (q : Int) := by rw [IntWalk.i64_in _ (by omega)]; omega
      have f2 : (j : Int).tmod 8 = (r : Int) := by rw [Int.tmod_eq_emod_of_nonneg (by omega)]; omega
      obtain ⟨y, hy⟩ : ∃ y, gt l j = y := ⟨_, rfl⟩
      rw [hy] at hca
      have hy0 : 0 ≤ y := hy ▸ (hb j).1
      have hy1 : y < 256 := hy ▸ (hb j).2
      have fw : IntKind.u64.wrap y = y := by simp [IntKind.wrap, IntKind.signed, IntKind.bits]; omega
      have HYY := Lib.hid hy
      clear hy
      have f3 : IntKind.i64.wrap (8 * (r : Int)) = (m : Int) := by rw [IntWalk.i64_in _ (by omega)]; omega
      have hcs := hA.cell q (by rw [mixN_len]; omega)
      have hfs := hA.free q
      have HQ := Lib.hid hq
      have HR := Lib.hid hr
      have HM := Lib.hid hm
      clear hq hr hm
      go_wp2_with fail
      go_still_tail 12, (by kernel_rfl)
      repeat still_step
      change wpList _ _ _ _ _ wr.drew
      go_wp2_with fail
      go_roundw
      case rel =>
        refine ⟨j + 1, by go_num, by omega, ?_, hN.drew.other _ _ _ (by omega), hK.drew.set _ _ _ (.inl (by omega)), ?_⟩
        · have := hA.drew.set q (bits .xor .u64 (gt (mixN s l j) q) (IntKind.u64.wrap (y * 2 ^ m)))
          rw [mixN, HQ.out, HR.out, HM.out, HYY.out]; exact this
        · exact hR.drew.keep fun p hp => World.cell?_setCell_other _ _ _ _ (fun e => by subst e; simp at hp)
      case measure => simp [intOf]; omega
    · have hlt' : ¬ ((j : Int) < 136) := by omega
      have hj136 : j = 136 := by omega
      obtain ⟨L, hL⟩ : ∃ L, mixN s l j = L := ⟨_, rfl⟩
      have hLl : L.length = 25 := by rw [← hL, mixN_len, hs]
      have hLw : Ws L := hL ▸ mixN_W l hw j
      have hfin : Hid (L = mixN s l 136) := by show L = _; rw [← hL, hj136]
      rw [hL] at hA
      have hsz := hN.lt
      have hT := ht.kept hK hz0 hz
      clear hL hj136 hlt
      go_wp2_with (refine wpList_load_arr rfl 100 _ rfl rfl hA Tryd.underlying100 rfl 25 inf_a25 hLl ?_)
      (with_reducible refine (permute_any L wr hLl hLw hT (by omega) (by omega)).mono ?_)
      rintro e w3 ⟨rfl, hb3⟩
      have hN3 := hN.below hb3 (by omega)
      have hK3 := hK.trans (S' := fun _ => False) (Kept.of_below hb3) (by omega) (fun _ _ h => h)
      have hpl : (permute L).length = 25 := by rw [permute_len, hLl]
      clear hA hN hK hb3 hR
      go_wp2_with (refine wpList_store_arr rfl 100 _ _ rfl rfl rfl hN3 25 inf_a25 hpl rfl ?_)
      refine bodyPost_arr 4 100 25 Tryd.underlying100 rfl inf_a25 rfl rfl rfl (hN3.setRow _) hpl ⟨by rw [hfin.out], ?_⟩
      exact hB'.out ▸ (hK3.setRow (B + 1) _ (by omega)).below

end Go.Proofs.YtfaonieaagepjaaDoor
