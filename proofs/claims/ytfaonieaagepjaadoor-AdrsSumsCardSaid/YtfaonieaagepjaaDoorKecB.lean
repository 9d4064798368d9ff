import Derived.Test.YtfaonieaagepjaaDoorKecA
namespace Go.Proofs.YtfaonieaagepjaaDoor
open Go.RowKit
set_option maxRecDepth 100000
set_option linter.unusedVariables false
set_option linter.unusedSimpArgs false

theorem inf_a25 : (Tryd.prog.info? 100).map (·.size) = some 25 := by kernel_rfl
theorem inf_u64 : (Tryd.prog.info? 25).map (·.size) = some 1 := by kernel_rfl

theorem zero25 : #[Value.int .u64 0, .int .u64 0, .int .u64 0, .int .u64 0, .int .u64 0, .int .u64 0, .int .u64 0, .int .u64 0, .int .u64 0, .int .u64 0, .int .u64 0, .int .u64 0, .int .u64 0, .int .u64 0, .int .u64 0, .int .u64 0, .int .u64 0, .int .u64 0, .int .u64 0, .int .u64 0, .int .u64 0, .int .u64 0, .int .u64 0, .int .u64 0, .int .u64 0] = U .u64 (List.replicate 25 0) := rfl

set_option maxHeartbeats 2000000 in
theorem round_any (l : List Int) (i : Nat) (w : World) (hl : l.length = 25) (hw : Ws l) (hi : i < 24) (ht0 : KTab w) (hz : 3 < w.heap.size) (hz0 : 4 < w.heap.size) :
    Calls Tryd.prog 90 #[.agg (U .u64 l), .int .i64 i] w fun e w' => e = .returned (.agg (U .u64 (roundS l i))) ∧ Below w.heap.size w w' := by
  go_enter Tryd.func90, Tryd.ntmps90
  go_wp2_with fail
  obtain ⟨B, hB⟩ : ∃ B, w.heap.size = B := ⟨_, rfl⟩
  have hA0 : Arr (w.alloc (.cells (U .u64 l) 100)) B 100 .u64 l := by subst hB; exact Arr.new _ _ _ _
  have hA : Arr ((w.alloc (.cells (U .u64 l) 100)).alloc (.cells (U .u64 (List.replicate 25 0)) 100)) B 100 .u64 l := hA0.alloc _
  have hR : Arr ((w.alloc (.cells (U .u64 l) 100)).alloc (.cells (U .u64 (List.replicate 25 0)) 100)) (B + 1) 100 .u64 (List.replicate 25 0) := by
    subst hB; have := Arr.new (w.alloc (.cells (U .u64 l) 100)) 100 .u64 (List.replicate 25 0); simpa using this
  have hK : Kept B (fun _ => False) w ((w.alloc (.cells (U .u64 l) 100)).alloc (.cells (U .u64 (List.replicate 25 0)) 100)) :=
    ((Kept.refl _ _ _).alloc _ (by omega)).alloc _ (by simp; omega)
  rw [hB, zero25]
  (with_reducible refine (theta_any l B 100 _ hl hA).mono ?_)
  rintro e w1 ⟨rfl, hA1, hk1⟩
  have hs1 := hk1.size
  simp only [World.size_alloc, hB] at hk1 hs1
  replace hR := hR.kept hk1 (by omega) (by omega)
  replace hK := hK.trans (S := fun _ => False) hk1 (by omega) (by intro k h1 h2; omega)
  obtain ⟨L, hL⟩ : ∃ L, theta l = L := ⟨_, rfl⟩
  rw [hL] at hA1
  have hLl : L.length = 25 := by rw [← hL, theta_len, hl]
  have hLw : Ws L := hL ▸ theta_W hw
  have HL := Lib.hid hL
  rw [hB] at hz hz0
  have hBw : w.heap.size ≤ B ∧ B ≤ w.heap.size := by omega
  have hBv := Lib.hid hB
  clear hA0 hA hB hL hs1 hl
  go_wp2_with (refine wpList_load_arr rfl 100 _ rfl rfl (hA1.alloc _) Tryd.underlying100 rfl 25 inf_a25 hLl ?_)
  obtain ⟨C, hC⟩ : ∃ C, w1.heap.size = C := ⟨_, rfl⟩
  have hCB := hk1.size
  simp only [World.size_alloc] at hCB
  have hb0 : Arr (w1.alloc (.cells (U .u64 (List.replicate 25 0)) 100)) C 100 .u64 (rhoB L 0) := by subst hC; exact Arr.new _ _ _ _
  have hBC : B + 2 ≤ C := by omega
  clear hBw
  replace hA1 := hA1.alloc (.cells (U .u64 (List.replicate 25 0)) 100)
  replace hR := hR.alloc (.cells (U .u64 (List.replicate 25 0)) 100)
  replace hK := hK.alloc (.cells (U .u64 (List.replicate 25 0)) 100) (by omega)
  rw [zero25, hC]
  clear hC hCB hk1
  go_loopw [22] (fun i wr => ∃ k : Nat, k ≤ 25 ∧ i = .int .i64 k ∧ Arr wr C 100 .u64 (rhoB L k) ∧ Arr wr B 100 .u64 L ∧ Arr wr (B + 1) 100 .u64 (List.replicate 25 0) ∧ Kept B (fun _ => False) w wr) (fun i _ => (25 - intOf i).toNat)
  case atStart => exact ⟨0, by omega, rfl, hb0, hA1, hR, hK⟩
  case round =>
    clear hA1 hb0 hR hK
    obtain ⟨k, hk, rfl, hc, ha, hr, hg⟩ := hrel
    by_cases hlt : k < 25
    · have hix := run_index_arr (P := Tryd.prog) Tryd.underlying100 Tryd.underlying25 inf_u64 hLl k hlt
      have htb := ht0.2.kept hg (by omega) (fun h => h) k hlt
      have htr := turns_range k
      have hcf := hc.free (k / 5 + 5 * ((2 * (k % 5) + 3 * (k / 5)) % 5))
      have hcc := hc.cell (k / 5 + 5 * ((2 * (k % 5) + 3 * (k / 5)) % 5)) (by rw [rhoB_len]; omega)
      have hlt' : (k : Int) < 25 := by omega
      go_wp2_with (go_at_call 95; refine (rotl_any _ _ _ (hLw.gt k) htr.1 htr.2).mono ?_; rintro e w' ⟨rfl, rfl⟩)
      go_roundw
      case rel => exact ⟨k + 1, by omega, by go_num, hc.set _ _, ha.other _ _ _ (by omega), hr.other _ _ _ (by omega), hg.set _ _ _ (by omega)⟩
      case measure => simp [intOf]; omega
    · have hk25 : Hid (k = 25) := by show k = 25; omega
      have hlt' : ¬ ((k : Int) < 25) := by omega
      clear hk hlt
      go_wp2_with fail
      obtain ⟨b, hbb⟩ : ∃ b, rhoB L k = b := ⟨_, rfl⟩
      rw [hbb] at hc
      have hbl : b.length = 25 := by rw [← hbb, rhoB_len]
      have HB : Hid (rhoB L 25 = b) := by rw [← hbb, hk25.out]; rfl
      have hbw : Ws b := hbb ▸ rhoB_W _ _
      clear hbb
      go_loopw [46] (fun i wr => ∃ k : Nat, k ≤ 25 ∧ i = .int .i64 k ∧ Arr wr C 100 .u64 b ∧ Arr wr B 100 .u64 (chiA b L k) ∧ Arr wr (B + 1) 100 .u64 (List.replicate 25 0) ∧ Kept B (fun _ => False) w wr) (fun i _ => (25 - intOf i).toNat)
      case atStart => exact ⟨0, by omega, rfl, hc, ha, hr, hg⟩
      case round =>
        clear hc ha hr hg
        obtain ⟨k, hk, rfl, hc, ha, hr, hg⟩ := hrel
        by_cases hlt : k < 25
        · obtain ⟨m1, e1⟩ : ∃ m : Nat, (k % 5 + 1) % 5 = m := ⟨_, rfl⟩
          obtain ⟨m2, e2⟩ : ∃ m : Nat, (k % 5 + 2) % 5 = m := ⟨_, rfl⟩
          obtain ⟨n1, g1⟩ : ∃ m : Nat, k / 5 * 5 + m1 = m := ⟨_, rfl⟩
          obtain ⟨n2, g2⟩ : ∃ m : Nat, k / 5 * 5 + m2 = m := ⟨_, rfl⟩
          have b1 : (n1 : Int) < 25 := by omega
          have b2 : (n2 : Int) < 25 := by omega
          have f1 : (IntKind.i64.wrap ((k : Int) % 5 + 1)).tmod 5 = (m1 : Int) := wtmod _ 5 m1 (by omega) (by omega) (by omega)
          have f2 : (IntKind.i64.wrap ((k : Int) % 5 + 2)).tmod 5 = (m2 : Int) := wtmod _ 5 m2 (by omega) (by omega) (by omega)
          have q1 : IntKind.i64.wrap ((k : Int) / 5 * 5 + (m1 : Int)) = (n1 : Int) := by rw [IntWalk.i64_in _ (by omega)]; omega
          have q2 : IntKind.i64.wrap ((k : Int) / 5 * 5 + (m2 : Int)) = (n2 : Int) := by rw [IntWalk.i64_in _ (by omega)]; omega
          have hck := hc.cell k (by omega)
          have hc1 := hc.cell n1 (by omega)
          have hc2 := hc.cell n2 (by omega)
          have haf := ha.free k
          have hak := ha.cell k (by rw [chiA_len]; omega)
          have hlt' : (k : Int) < 25 := by omega
          go_wp2_with fail
          go_still_tail 22, (by kernel_rfl)
          change wpList _ _ _ _ _ wr.drew
          go_wp2_with fail
          go_roundw
          case rel => exact ⟨k + 1, by omega, by go_num, hc.drew.other _ _ _ (by omega), by have := ha.drew.set k (bits .xor .u64 (gt b k) (bits .and .u64 (not64 (gt b n1)) (gt b n2))); rw [chiA, e1, e2, g1, g2]; exact this, hr.drew.other _ _ _ (by omega), hg.drew.set _ _ _ (by omega)⟩
          case measure => simp [intOf]; omega
        · have hk25 : k = 25 := by omega
          have hlt' : ¬ ((k : Int) < 25) := by omega
          obtain ⟨A, hAA⟩ : ∃ A, chiA b L k = A := ⟨_, rfl⟩
          rw [hAA] at ha
          have hAl : A.length = 25 := by rw [← hAA, chiA_len, hLl]
          have hfin : Hid (st A 0 (bits .xor .u64 (gt A 0) (gt rcL i)) = roundS l i) := by
            show _ = _
            rw [roundS, HL.out, HB.out, ← hk25, hAA]
          clear hk25 hAA
          have hti := ht0.1.kept hg (by omega) (fun h => h) i hi
          have ha0 := ha.cell 0 (by omega)
          have haf := ha.free 0
          go_wp2_with fail
          go_still_tail 7, (by kernel_rfl)
          change wpList _ _ _ _ _ wr.drew
          have ha2 := ha.drew.set 0 (bits .xor .u64 (gt A 0) (gt rcL i))
          go_wp2_with (first | (refine wpList_load_arr rfl 100 _ rfl rfl ha2 Tryd.underlying100 rfl 25 inf_a25 (by rw [st_len, hAl]) ?_) | (refine wpList_store_arr rfl 100 _ _ rfl rfl rfl ((hr.drew).other _ _ _ (by omega)) 25 inf_a25 (by rw [st_len, hAl]) rfl ?_))
          refine bodyPost_arr 4 100 25 Tryd.underlying100 rfl inf_a25 rfl rfl rfl ((hr.drew.other B 0 (.int .u64 (bits .xor .u64 (gt A 0) (gt rcL i))) (by omega)).setRow _) (by rw [st_len, hAl]) ⟨by rw [hfin.out], ?_⟩
          have hk2 := ((hg.drew.set B 0 (.int .u64 (bits .xor .u64 (gt A 0) (gt rcL i))) (by omega)).setRow (B + 1) (U .u64 (st A 0 (bits .xor .u64 (gt A 0) (gt rcL i)))) (by omega)).below
          exact hBv.out ▸ hk2

/-- A round that there isn't. -/
theorem round_none (l : List Int) (i : Int) (w : World) (hl : l.length = 25) (hi : ¬ (0 ≤ i ∧ i < 24)) :
    Calls Tryd.prog 90 #[.agg (U .u64 l), .int .i64 i] w fun e w' => e = .returned (.agg (U .u64 l)) ∧ Below w.heap.size w w' := by
  have hA0 := Arr.new w 100 .u64 l
  have hA : Arr ((w.alloc (.cells (U .u64 l) 100)).alloc (.cells (U .u64 (List.replicate 25 0)) 100)) w.heap.size 100 .u64 l := hA0.alloc _
  have hR : Arr ((w.alloc (.cells (U .u64 l) 100)).alloc (.cells (U .u64 (List.replicate 25 0)) 100)) (w.heap.size + 1) 100 .u64 (List.replicate 25 0) := by
    have := Arr.new (w.alloc (.cells (U .u64 l) 100)) 100 .u64 (List.replicate 25 0); simpa using this
  have hK : Kept w.heap.size (fun _ => False) w ((w.alloc (.cells (U .u64 l) 100)).alloc (.cells (U .u64 (List.replicate 25 0)) 100)) :=
    ((Kept.refl _ _ _).alloc _ (by omega)).alloc _ (by simp)
  rw [← zero25] at hA hR hK
  rcases Int.lt_or_le i 0 with h | h
  all_goals
    go_enter Tryd.func90, Tryd.ntmps90
    have h24 : 24 ≤ i ∨ i < 0 := by omega
    go_wp2_with (first | (refine wpList_load_arr rfl 100 _ rfl rfl hA Tryd.underlying100 rfl 25 inf_a25 hl ?_) | (refine wpList_store_arr rfl 100 _ _ rfl rfl rfl hR 25 inf_a25 hl rfl ?_))
    exact bodyPost_arr 4 100 25 Tryd.underlying100 rfl inf_a25 rfl rfl rfl (hR.setRow _) hl ⟨rfl, (hK.setRow _ _ (by omega)).below⟩

end Go.Proofs.YtfaonieaagepjaaDoor
