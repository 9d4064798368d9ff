import Derived.Test.YtabpbnkipdjnlaaDoorKecE
namespace Go.Proofs.YtabpbnkipdjnlaaDoor
open Go.RowKit
set_option linter.unusedVariables false
set_option linter.unusedSimpArgs false

/-- A constant, reckoned. -/
def rcF (i : Nat) : Nat → Int
  | 0 => 0
  | j + 1 => bits .or .u64 (rcF i j) (IntKind.u64.wrap (bitR (7 * i + j) % 2 * 2 ^ (2 ^ j - 1)))
theorem pow_arith (k : Nat) (hk : k ≤ 6) : ∃ p : Nat, (2 : Int) ^ k = (p : Int) ∧ p = 2 ^ k ∧ 1 ≤ p ∧ p ≤ 64 := by
  refine ⟨2 ^ k, by push_cast; rfl, rfl, Nat.one_le_two_pow, ?_⟩
  exact Nat.le_trans (Nat.pow_le_pow_right (by decide) hk) (by decide)

theorem fRC_any (i : Nat) (w : World) (hi : i < 24) :
    Calls Tryd.prog 22 #[.int .i64 i] w fun e w' => e = .returned (.int .u64 (rcF i 7)) ∧ w' = w := by
  have hi0 : ¬ ((i : Int) < 0) := by omega
  have hi1 : ¬ ((23 : Int) < (i : Int)) := by omega
  go_enter Tryd.func22, Tryd.ntmps22
  go_wp2_with fail
  go_loop [3, 4] (fun r j => ∃ k : Nat, k ≤ 7 ∧ j = .int .i64 k ∧ r = .int .u64 (rcF i k)) (fun _ j => (7 - intOf j).toNat)
  case atStart => exact ⟨0, by omega, rfl, rfl⟩
  case round =>
    obtain ⟨k, hk, rfl, rfl⟩ := hrel
    by_cases hlt : k < 7
    · have hlt' : (k : Int) ≤ 6 := by omega
      obtain ⟨p, hp, hpk, hp1, hp2⟩ := pow_arith k (by omega)
      have HP := Lib.hid hpk
      clear hpk
      have hb := bit_any (7 * i + k) w (by omega)
      have hbr := bitR_range (7 * i + k)
      obtain ⟨v, hv⟩ : ∃ v, bitR (7 * i + k) % 2 = v := ⟨_, rfl⟩
      rw [hv] at hb
      have hv0 : 0 ≤ v ∧ v < 2 := by omega
      have HV := Lib.hid hv
      have HB := Lib.hid hb
      clear hv hb hbr
      obtain ⟨r, hrr⟩ : ∃ r, rcF i k = r := ⟨_, rfl⟩
      rw [hrr]
      have HR := Lib.hid hrr
      clear hrr
      go_wp2_with fail
      rw [show (7 : Int) * (i : Int) + (k : Int) = ((7 * i + k : Nat) : Int) by push_cast; rfl]
      (with_reducible refine HB.out.mono ?_)
      rintro e w1 ⟨rfl, rfl⟩
      go_wp2_with fail
      go_round
      case rel => exact ⟨k + 1, by omega, by go_num, by rw [rcF, HR.out, HV.out, ← HP.out]⟩
      case measure => simp [intOf]; omega
    · have hlt' : ¬ ((k : Int) ≤ 6) := by omega
      have hk7 : Hid (k = 7) := by show k = 7; omega
      clear hlt hk
      go_wp2_with fail
      go_ret
      exact ⟨by rw [← hk7.out]; rfl, rfl⟩

/-- The constants that are reckoned are those that are written out. -/
theorem rcF_eq (i : Nat) (hi : i < 24) : rcF i 7 = gt rcL i := by
  have h : ∀ i : Fin 24, rcF i.val 7 = gt rcL i.val := by decide +kernel
  exact h ⟨i, hi⟩

set_option maxHeartbeats 1000000 in
theorem fRound_any (l : List Int) (i : Nat) (w : World) (hl : l.length = 25) (hw : Ws l) (hi : i < 24) :
    Calls Tryd.prog 21 #[.agg (U .u64 l), .int .i64 i] w fun e w' => e = .returned (.agg (U .u64 (stepS l (gt rcL i)))) ∧ Below w.heap.size w w' := by
  have hi0 : ¬ ((i : Int) < 0) := by omega
  have hi1 : ¬ ((23 : Int) < (i : Int)) := by omega
  have hA0 := Arr.new w 23 .u64 l
  have hA : Arr ((w.alloc (.cells (U .u64 l) 23)).alloc (.cells (U .u64 (List.replicate 25 0)) 23)) w.heap.size 23 .u64 l := hA0.alloc _
  have hR : Arr ((w.alloc (.cells (U .u64 l) 23)).alloc (.cells (U .u64 (List.replicate 25 0)) 23)) (w.heap.size + 1) 23 .u64 (List.replicate 25 0) := by
    have := Arr.new (w.alloc (.cells (U .u64 l) 23)) 23 .u64 (List.replicate 25 0); simpa using this
  have hK : Kept w.heap.size (fun _ => False) w ((w.alloc (.cells (U .u64 l) 23)).alloc (.cells (U .u64 (List.replicate 25 0)) 23)) :=
    ((Kept.refl _ _ _).alloc _ (by omega)).alloc _ (by simp)
  obtain ⟨W, hW⟩ : ∃ W, (w.alloc (.cells (U .u64 l) 23)).alloc (.cells (U .u64 (List.replicate 25 0)) 23) = W := ⟨_, rfl⟩
  have hrc := fRC_any i W.drew hi
  rw [rcF_eq i hi] at hrc
  go_enter Tryd.func21, Tryd.ntmps21
  go_wp2_with fail
  rw [zero25, hW]
  rw [hW] at hA hR hK
  go_still_tail 3, (by kernel_rfl)
  refine wpStill_load_arr rfl 23 _ rfl rfl (hA.drew) Tryd.underlying23 rfl 25 inf_a25 hl ?_
  still_step
  still_call hrc
  refine wpStill_nil ?_
  change wpList _ _ _ _ _ W.drew
  have hsz : W.drew.heap.size = W.heap.size := rfl
  have hlt := hR.lt
  go_wp2_with fail
  (with_reducible refine (step_any l (gt rcL i) W.drew hl hw).mono ?_)
  rintro e w1 ⟨rfl, hb⟩
  have hl2 : (stepS l (gt rcL i)).length = 25 := by rw [stepS_len, hl]
  rw [hsz] at hb
  have hR1 := hR.drew.below hb hlt
  have hK1 := hK.drew.trans (S' := fun _ => False) (Kept.of_below hb) (by omega) (fun _ _ h => h)
  clear hsz hW hA0
  go_wp2_with (refine wpList_store_arr rfl 23 _ _ rfl rfl rfl hR1 25 inf_a25 hl2 rfl ?_)
  exact bodyPost_arr 4 23 25 Tryd.underlying23 rfl inf_a25 rfl rfl rfl (hR1.setRow _) hl2 ⟨rfl, (hK1.setRow _ _ (by omega)).below⟩

theorem fRound_none (l : List Int) (i : Int) (w : World) (hl : l.length = 25) (hi : ¬ (0 ≤ i ∧ i < 24)) :
    Calls Tryd.prog 21 #[.agg (U .u64 l), .int .i64 i] w fun e w' => e = .returned (.agg (U .u64 l)) ∧ Below w.heap.size w w' := by
  have hA0 := Arr.new w 23 .u64 l
  have hA : Arr ((w.alloc (.cells (U .u64 l) 23)).alloc (.cells (U .u64 (List.replicate 25 0)) 23)) w.heap.size 23 .u64 l := hA0.alloc _
  have hR : Arr ((w.alloc (.cells (U .u64 l) 23)).alloc (.cells (U .u64 (List.replicate 25 0)) 23)) (w.heap.size + 1) 23 .u64 (List.replicate 25 0) := by
    have := Arr.new (w.alloc (.cells (U .u64 l) 23)) 23 .u64 (List.replicate 25 0); simpa using this
  have hK : Kept w.heap.size (fun _ => False) w ((w.alloc (.cells (U .u64 l) 23)).alloc (.cells (U .u64 (List.replicate 25 0)) 23)) :=
    ((Kept.refl _ _ _).alloc _ (by omega)).alloc _ (by simp)
  rw [← zero25] at hA hR hK
  rcases Int.lt_or_le i 0 with h | h
  all_goals
    go_enter Tryd.func21, Tryd.ntmps21
    have h24 : 23 < i ∨ i < 0 := by omega
    go_wp2_with (first | (refine wpList_load_arr rfl 23 _ rfl rfl hA Tryd.underlying23 rfl 25 inf_a25 hl ?_) | (refine wpList_store_arr rfl 23 _ _ rfl rfl rfl hR 25 inf_a25 hl rfl ?_))
    exact bodyPost_arr 4 23 25 Tryd.underlying23 rfl inf_a25 rfl rfl rfl (hR.setRow _) hl ⟨rfl, (hK.setRow _ _ (by omega)).below⟩

set_option maxHeartbeats 2000000 in
theorem fPermute_any (l rc : List Int) (w : World) (hl : l.length = 25) (hw : Ws l) (hrl : rc.length = 24) :
    Calls Tryd.prog 19 #[.agg (U .u64 l), .agg (U .u64 rc)] w fun e w' => e = .returned (.agg (U .u64 (fPerm l rc 24))) ∧ Below w.heap.size w w' := by
  go_enter Tryd.func19, Tryd.ntmps19
  go_wp2_with fail
  obtain ⟨B, hB⟩ : ∃ B, w.heap.size = B := ⟨_, rfl⟩
  have hA0 : Arr (w.alloc (.cells (U .u64 l) 23)) B 23 .u64 l := by subst hB; exact Arr.new _ _ _ _
  have hC0 : Arr ((w.alloc (.cells (U .u64 l) 23)).alloc (.cells (U .u64 rc) 25)) (B + 1) 25 .u64 rc := by
    subst hB; have := Arr.new (w.alloc (.cells (U .u64 l) 23)) 25 .u64 rc; simpa using this
  have hR0 : Arr (((w.alloc (.cells (U .u64 l) 23)).alloc (.cells (U .u64 rc) 25)).alloc (.cells (U .u64 (List.replicate 25 0)) 23)) (B + 1 + 1) 23 .u64 (List.replicate 25 0) := by
    subst hB; have := Arr.new ((w.alloc (.cells (U .u64 l) 23)).alloc (.cells (U .u64 rc) 25)) 23 .u64 (List.replicate 25 0); simpa using this
  have hA := (hA0.alloc (.cells (U .u64 rc) 25)).alloc (.cells (U .u64 (List.replicate 25 0)) 23)
  have hC := hC0.alloc (.cells (U .u64 (List.replicate 25 0)) 23)
  have hK : Kept B (fun _ => False) w (((w.alloc (.cells (U .u64 l) 23)).alloc (.cells (U .u64 rc) 25)).alloc (.cells (U .u64 (List.replicate 25 0)) 23)) :=
    (((Kept.refl _ _ _).alloc _ (by omega)).alloc _ (by simp; omega)).alloc _ (by simp; omega)
  rw [hB, zero25]
  have hBv := Lib.hid hB
  clear hA0 hC0 hB
  go_loopw [5] (fun i wr => ∃ k : Nat, k ≤ 24 ∧ i = .int .i64 k ∧ Arr wr B 23 .u64 (fPerm l rc k) ∧ Arr wr (B + 1) 25 .u64 rc ∧ Arr wr (B + 1 + 1) 23 .u64 (List.replicate 25 0) ∧ Kept B (fun _ => False) w wr) (fun i _ => (24 - intOf i).toNat)
  case atStart => exact ⟨0, by omega, rfl, hA, hC, hR0, hK⟩
  case round =>
    clear hA hC hR0 hK
    obtain ⟨k, hk, rfl, ha, hc, hr, hg⟩ := hrel
    obtain ⟨L, hL⟩ : ∃ L, fPerm l rc k = L := ⟨_, rfl⟩
    have hLl : L.length = 25 := by rw [← hL, fPerm_len, hl]
    have hLw : Ws L := hL ▸ fPerm_W hw rc k
    rw [hL] at ha
    have HL := Lib.hid hL
    clear hL
    have hsz := hr.lt
    by_cases hlt : k < 24
    · have hlt' : (k : Int) < 24 := by omega
      have hck := hc.cell k (by omega)
      go_wp2_with fail
      go_still_tail 4, (by kernel_rfl)
      refine wpStill_load_arr rfl 23 _ rfl rfl (ha.drew) Tryd.underlying23 rfl 25 inf_a25 hLl ?_
      repeat still_step
      refine wpStill_nil ?_
      change wpList _ _ _ _ _ wr.drew
      have hsz2 : wr.drew.heap.size = wr.heap.size := rfl
      go_wp2_with fail
      (with_reducible refine (step_any L (gt rc k) wr.drew hLl hLw).mono ?_)
      rintro e w1 ⟨rfl, hb⟩
      rw [hsz2] at hb
      replace ha := ha.drew.below hb (by omega)
      replace hc := hc.drew.below hb (by omega)
      replace hr := hr.drew.below hb (by omega)
      replace hg := hg.drew.trans (S' := fun _ => False) (Kept.of_below hb) (by omega) (fun _ _ h => h)
      have hl2 : (stepS L (gt rc k)).length = 25 := by rw [stepS_len, hLl]
      clear hsz2 hb
      go_wp2_with (refine wpList_store_arr rfl 23 _ _ rfl rfl rfl ha 25 inf_a25 hl2 hLl ?_)
      go_roundw
      case rel => exact ⟨k + 1, by omega, by go_num, by rw [fPerm, HL.out]; exact ha.setRow _, hc.otherRow _ _ (by omega), hr.otherRow _ _ (by omega), hg.setRow _ _ (by omega)⟩
      case measure => simp [intOf]; omega
    · have hk24 : k = 24 := by omega
      have hfin : Hid (L = fPerm l rc 24) := by show L = _; rw [← HL.out, hk24]
      have hlt' : ¬ ((k : Int) < 24) := by omega
      clear hk24 hlt
      go_wp2_with (first | (refine wpList_load_arr rfl 23 _ rfl rfl ha Tryd.underlying23 rfl 25 inf_a25 hLl ?_) | (refine wpList_store_arr rfl 23 _ _ rfl rfl rfl hr 25 inf_a25 hLl rfl ?_))
      refine bodyPost_arr 4 23 25 Tryd.underlying23 rfl inf_a25 rfl rfl rfl (hr.setRow _) hLl ⟨by rw [hfin.out], ?_⟩
      exact hBv.out ▸ (hg.setRow (B + 1 + 1) _ (by omega)).below

end Go.Proofs.YtabpbnkipdjnlaaDoor
