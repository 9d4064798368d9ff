/- The reference's turn of layer 3, walked. Conditions: a state of 8 words, a block of 128 bytes. -/
import Derived.Test.YteidkdpfjponfaaDoorS5E
import Derived.Deep.LoopGhost
import Derived.Deep.DeepCutAuto
import Derived.Deep.CutBlock
namespace Go.Proofs.YteidkdpfjponfaaDoor
open Go.RowKit
set_option linter.unusedVariables false
set_option linter.unusedSimpArgs false

theorem sched_zero (b : List Int) (i : Nat) (hi : i < 80) : ∀ t, t ≤ i → gt (sched b t) i = 0
  | 0, _ => gt_rep _ _ _ hi
  | t + 1, h => by rw [sched, gt_st _ _ _ _ (by rw [sched_len]; omega), if_neg (by omega), sched_zero b i hi t (by omega)]
theorem beN_drop (b : List Int) (o j : Nat) : beN (b.drop o) (j + 1) = beN (b.drop o) j * 256 + gt b (o + j) := by rw [beN, gt_drop]
theorem max64 : (if IntKind.u64.signed = true then (-1 : Int) else IntKind.u64.max) = 18446744073709551615 := by rfl
theorem not_max (e : Int) : X e 18446744073709551615 = not64 e := by rw [X_comm, not64, max64]
def mixR (l : List Int) (t : Nat) : Int := ad (ad (ad (sg1 (gt l (t - 2))) (gt l (t - 7))) (sg0 (gt l (t - 15)))) (gt l (t - 16))
theorem mixR_eq (l : List Int) (t : Nat) : mixR l t = mixP l t := by
  unfold mixR mixP ad
  generalize gt l (t - 7) = a
  generalize gt l (t - 16) = b
  generalize sg1 (gt l (t - 2)) = c
  generalize sg0 (gt l (t - 15)) = d
  simp only [IntKind.wrap_u64]
  omega
def turnR (s z : List Int) : List Int := [ad (gt s 0) (gt z 0), ad (gt s 1) (gt z 1), ad (gt s 2) (gt z 2), ad (gt s 3) (gt z 3), ad (gt s 4) (gt z 4), ad (gt s 5) (gt z 5), ad (gt s 6) (gt z 6), ad (gt s 7) (gt z 7)]
theorem ad_comm (a b : Int) : ad a b = ad b a := by unfold ad; rw [Int.add_comm]
theorem turnR_eq (s z : List Int) (hz : z.length = 8) : turnR s z = addN s z 8 := by
  apply ext_gt _ _ (by rw [addN_len, hz]; rfl)
  intro i hi
  have hi8 : i < 8 := hi
  rw [gt_addN s z i 8 (by omega), if_pos hi8, ad_comm]
  match i, hi8 with
  | 0, _ => rfl
  | 1, _ => rfl
  | 2, _ => rfl
  | 3, _ => rfl
  | 4, _ => rfl
  | 5, _ => rfl
  | 6, _ => rfl
  | 7, _ => rfl
structure V5 (w0 : World) (B C : Nat) (s v : List Int) (w : World) : Prop where
  a0 : Arr w B 75 .u64 s
  a1 : Arr w (B + 1) 75 .u64 (List.replicate 8 0)
  ak : Arr w C 78 .u64 k5L
  aw : Arr w (C + 1) 78 .u64 v
  k : Kept B (fun _ => False) w0 w
theorem V5.drewN {w0 w : World} {B C : Nat} {s v : List Int} (h : V5 w0 B C s v w) (q : Nat) : V5 w0 B C s v (w.drewN q) := ⟨h.a0, h.a1, h.ak, h.aw, h.k.drewN q⟩
theorem V5.setW {w0 w : World} {B C : Nat} {s v : List Int} (h : V5 w0 B C s v w) (hC : B + 2 ≤ C) (i : Nat) (x : Int) : V5 w0 B C s (st v i x) (w.setCell ⟨C + 1, i, none⟩ (.int .u64 x)) :=
  ⟨h.a0.other _ _ _ (by omega), h.a1.other _ _ _ (by omega), h.ak.other _ _ _ (by omega), h.aw.set i x, h.k.set _ _ _ (.inl (by omega))⟩
def P1 (w0 : World) (B C : Nat) (s b : List Int) (gk : Nat) (x : Value) (w : World) : Prop :=
  ∃ t : Nat, x = .int .i64 t ∧ t ≤ 16 ∧ gk = 16 - t ∧ V5 w0 B C s (sched b t) w
def P2 (w0 : World) (B C : Nat) (s b : List Int) (t gk : Nat) (x : Value) (w : World) : Prop :=
  ∃ i : Nat, x = .int .i64 i ∧ i ≤ 8 ∧ gk = 8 - i ∧ V5 w0 B C s (st (sched b t) t (beN (b.drop (8 * t)) i)) w
def P3 (w0 : World) (B C : Nat) (s b : List Int) (gk : Nat) (x : Value) (w : World) : Prop :=
  ∃ t : Nat, x = .int .i64 t ∧ 16 ≤ t ∧ t ≤ 80 ∧ gk = 80 - t ∧ V5 w0 B C s (sched b t) w
def P4 (w0 : World) (B C : Nat) (s b v : List Int) (gk : Nat) (xa xb xc xd xe xf xg xh x : Value) (w : World) : Prop :=
  ∃ (t : Nat) (z : List Int), rnds b s t = z ∧ x = .int .i64 t ∧ t ≤ 80 ∧ gk = 80 - t ∧ xa = .int .u64 (gt z 0) ∧ xb = .int .u64 (gt z 1) ∧ xc = .int .u64 (gt z 2) ∧ xd = .int .u64 (gt z 3) ∧
    xe = .int .u64 (gt z 4) ∧ xf = .int .u64 (gt z 5) ∧ xg = .int .u64 (gt z 6) ∧ xh = .int .u64 (gt z 7) ∧ V5 w0 B C s v w

theorem zero8r : #[Value.int .u64 0, .int .u64 0, .int .u64 0, .int .u64 0, .int .u64 0, .int .u64 0, .int .u64 0, .int .u64 0] = U .u64 (List.replicate 8 0) := rfl
theorem inf_a8r : (Tryd.prog.info? 75).map (·.size) = some 8 := by kernel_rfl
set_option maxRecDepth 100000 in
set_option maxHeartbeats 4000000 in
theorem rturn_any (s b : List Int) (A : Option Addr) (c BB : Nat) (w : World) (hs : s.length = 8) (hsw : Ws s) (hr : Rd w BB .u8 A b) (hBB : BB ≤ w.heap.size) (hb : Bys b) (hbl : b.length = 128) (hc : 128 ≤ c) :
    Calls Tryd.prog 51 #[.agg (U .u64 s), .slice A 128 c] w fun e w' => e = .returned (.agg (U .u64 (turn5 s b))) ∧ Below w.heap.size w w' := by
  have z80 := zero80r
  have hA1 := (Arr.new w 75 .u64 s).alloc (.cells (U .u64 (List.replicate 8 0)) 75)
  have hN1 := Arr.new (w.alloc (.cells (U .u64 s) 75)) 75 .u64 (List.replicate 8 0)
  have hK1 := ((Kept.refl w.heap.size (fun _ => False) w).alloc (.cells (U .u64 s) 75) (Nat.le_refl _)).alloc (.cells (U .u64 (List.replicate 8 0)) 75) (by simp)
  obtain ⟨B, hB⟩ : ∃ B, w.heap.size = B := ⟨_, rfl⟩
  rw [hB] at hA1 hK1
  rw [show (w.alloc (.cells (U .u64 s) 75)).heap.size = B + 1 by simp [hB]] at hN1
  have hs1 : ((w.alloc (.cells (U .u64 s) 75)).alloc (.cells (U .u64 (List.replicate 8 0)) 75)).heap.size = B + 2 := by simp [hB]
  have hHB := Lib.hid hB
  rw [hB] at hBB
  go_enter Tryd.func51, Tryd.ntmps51
  go_upto_region 1 with fail
  change Code.wp _ _ _ _ ((w.alloc (.cells (U .u64 s) 75)).alloc (.cells (U .u64 (List.replicate 8 0)) 75))
  generalize (w.alloc (.cells (U .u64 s) 75)).alloc (.cells (U .u64 (List.replicate 8 0)) 75) = w1 at hA1 hN1 hK1 hs1 ⊢
  go_wp2_with fail
  (with_reducible refine (consts_any w1).mono ?_)
  rintro e w2 ⟨rfl, hb2⟩
  have hA2 := hA1.below hb2 hA1.lt
  have hN2 := hN1.below hb2 hN1.lt
  have hK2 := hK1.trans (S' := fun _ => False) (Kept.of_below hb2) (by omega) (fun _ _ h => h)
  obtain ⟨C, hC⟩ : ∃ C, w2.heap.size = C := ⟨_, rfl⟩
  have hBC : B + 2 ≤ C := by have := hb2.size; omega
  have hA3 := hA2.alloc (.cells (U .u64 zr80) 78)
  have hN3 := hN2.alloc (.cells (U .u64 zr80) 78)
  have hC3 := Arr.new w2 78 .u64 zr80
  have hK3 := hK2.alloc (.cells (U .u64 zr80) 78) (by omega)
  rw [hC] at hC3
  have hs3 : (w2.alloc (.cells (U .u64 zr80) 78)).heap.size = C + 1 := by simp [hC]
  clear hA1 hN1 hK1 hA2 hN2 hK2 hb2
  go_upto_region 2 with (refine wpList_store_arr (o := ⟨none, _, _, _, _, _⟩) rfl 78 _ _ rfl rfl rfl hC3 80 inf_a80r k5_len rfl ?_)
  have hA4 := hA3.otherRow C (U .u64 k5L) (by omega)
  have hN4 := hN3.otherRow C (U .u64 k5L) (by omega)
  have hC4 := hC3.setRow k5L
  have hK4 := hK3.setRow C (U .u64 k5L) (.inl (by omega))
  have hs4 : ((w2.alloc (.cells (U .u64 zr80) 78)).setRow C (U .u64 k5L)).heap.size = C + 1 := by simp [hC]
  change Code.wp _ _ _ _ ((w2.alloc (.cells (U .u64 zr80) 78)).setRow C (U .u64 k5L))
  generalize (w2.alloc (.cells (U .u64 zr80) 78)).setRow C (U .u64 k5L) = w4 at hA4 hN4 hC4 hK4 hs4 ⊢
  have h0 : V5 w B C s zr80 (w4.alloc (.cells (U .u64 zr80) 78)) :=
    ⟨hA4.alloc _, hN4.alloc _, hC4.alloc _, by have := Arr.new w4 78 .u64 zr80; rwa [hs4] at this, hK4.alloc _ (by omega)⟩
  clear hA3 hN3 hC3 hK3 hs3 hA4 hN4 hC4 hK4 hs1 hC
  go_upto_region 3 with fail
  generalize w4.alloc (.cells (U .u64 zr80) 78) = w5 at h0 ⊢
  clear hs4 z80 hB
  have HSW := Lib.hid hsw
  have HBB := Lib.hid hb
  have HBL := Lib.hid hbl
  clear hsw hb hbl
  go_wp2_with fail
  go_loopg [7] 16 (fun gk x wr => P1 w B C s b gk x wr)
  case atStart => exact ⟨0, rfl, Nat.zero_le _, rfl, h0⟩
  case round =>
    clear h0
    obtain ⟨wo, rfl⟩ : ∃ wo : World, wo = wr := ⟨_, rfl⟩
    obtain ⟨t, rfl, ht, hgk, hV⟩ := hrel
    have HGK := Lib.hid hgk
    clear hgk
    by_cases hlt : t < 16
    · have hltI : (t : Int) < 16 := by omega
      have hz0 : beN (b.drop (8 * t)) 0 = 0 := rfl
      have hst : st (sched b t) t 0 = sched b t := by
        have h := st_self5 (sched b t) t (by rw [sched_len]; omega)
        rwa [sched_zero b t (by omega) t (Nat.le_refl _)] at h
      have HST := Lib.hid hst
      clear hst hz0
      go_wp2_with fail
      go_loopg [8] 8 (fun gk x wr => P2 w B C s b t gk x wr)
      case atStart => exact ⟨0, rfl, Nat.zero_le _, rfl, by rw [show beN (b.drop (8 * t)) 0 = 0 from rfl, HST.out]; exact hV⟩
      case round =>
        clear hV
        obtain ⟨i, rfl, hi, hgk2, hV⟩ := hrel
        have HGK2 := Lib.hid hgk2
        clear hgk2
        by_cases hlt2 : i < 8
        · have hlt2I : (i : Int) < 8 := by omega
          obtain ⟨o, ho⟩ : ∃ o : Nat, 8 * t = o := ⟨_, rfl⟩
          obtain ⟨oi, hoi⟩ : ∃ o2 : Nat, o + i = o2 := ⟨_, rfl⟩
          have f1 : IntKind.i64.wrap (8 * (t : Int)) = (o : Int) := by rw [IntWalk.i64_in _ (by omega)]; omega
          have f2 : IntKind.i64.wrap ((o : Int) + (i : Int)) = (oi : Int) := by rw [IntWalk.i64_in _ (by omega)]; omega
          have ht80 : (t : Int) < 80 := by omega
          have hoiI : (oi : Int) < 128 := by omega
          have hoi0 : (0 : Int) ≤ (oi : Int) := by omega
          obtain ⟨ad_, rfl, _, hcb⟩ := (hr.kept hV.k hBB (fun _ _ h => h)).at_ (i := oi) (by have := HBL.out; omega)
          obtain ⟨y, hy⟩ : ∃ y, gt b oi = y := ⟨_, rfl⟩
          rw [hy] at hcb
          have hyb : B8 y := hy ▸ HBB.out.gt oi
          have hy0 : 0 ≤ y := hyb.1
          have hy1 : y < 256 := hyb.2
          have fw : IntKind.u64.wrap y = y := by simp [IntKind.wrap, IntKind.signed, IntKind.bits]; omega
          rw [ho] at hV
          obtain ⟨x, hx⟩ : ∃ x, beN (b.drop o) i = x := ⟨_, rfl⟩
          rw [hx] at hV
          have hcw := hV.aw.cell t (by rw [st_len, sched_len]; omega)
          rw [gt_st _ _ _ _ (by rw [sched_len]; omega), if_pos rfl] at hcw
          have hfw := hV.aw.free t
          have hnx : IntKind.u64.wrap (IntKind.u64.wrap (x * 256) + y) = beN (b.drop o) (i + 1) := by
            have hbd := beN_bd (HBB.out.drop o) (i + 1)
            have hbx := (beN_bd (HBB.out.drop o) i).1
            have hp : ∀ m, m < 8 → (256 : Int) ^ (m + 1) ≤ 18446744073709551616 := by decide
            have h2 := hp i hlt2
            rw [beN_drop, hx, hoi, hy] at hbd ⊢
            rw [hx] at hbx
            rw [IntKind.wrap_u64, IntKind.wrap_u64]
            omega
          have HO := Lib.hid ho
          have HNX := Lib.hid hnx
          clear ho hoi hy hx hnx hyb
          go_wp2_with fail
          go_still_tail 15, (by kernel_rfl)
          repeat still_step
          change wpList _ _ _ _ _ wr.drew
          go_wp2_with fail
          go_roundg (8 - (i + 1))
          case measure => have := HGK2.out; omega
          case rel =>
            refine ⟨i + 1, by go_num, by omega, rfl, ?_⟩
            have h := (hV.drewN 1).setW hBC t (IntKind.u64.wrap (IntKind.u64.wrap (x * 256) + y))
            rw [st_st5] at h
            rw [HO.out, ← HNX.out]
            exact h
        · have hlt2I : ¬ (i : Int) < 8 := by omega
          have hi8 : i = 8 := by omega
          have hVn : V5 w B C s (sched b (t + 1)) wr := by have h := hV; rw [hi8] at h; rw [sched, if_pos hlt]; exact h
          clear hV hi8 HGK2
          go_wp2_with fail
          go_roundg (16 - (t + 1))
          case measure => have := HGK.out; omega
          case rel => exact ⟨t + 1, by go_num, by omega, rfl, hVn⟩
    · have hltI : ¬ (t : Int) < 16 := by omega
      have ht16 : t = 16 := by omega
      have hV16 : V5 w B C s (sched b 16) wo := by rw [← ht16]; exact hV
      clear hV ht16 HGK
      go_wp2_with fail
      go_loopg [9] 64 (fun gk x wr => P3 w B C s b gk x wr)
      case atStart => exact ⟨16, rfl, Nat.le_refl _, by omega, rfl, hV16⟩
      case round =>
        clear hV16
        obtain ⟨t3, rfl, h16, h80, hgk, hV⟩ := hrel
        have HGK := Lib.hid hgk
        clear hgk
        by_cases hlt3 : t3 < 80
        · have hlt3I : (t3 : Int) < 80 := by omega
          obtain ⟨a15, e15⟩ : ∃ a, t3 - 15 = a := ⟨_, rfl⟩
          obtain ⟨a16, e16⟩ : ∃ a, t3 - 16 = a := ⟨_, rfl⟩
          obtain ⟨a7, e7⟩ : ∃ a, t3 - 7 = a := ⟨_, rfl⟩
          obtain ⟨a2, e2⟩ : ∃ a, t3 - 2 = a := ⟨_, rfl⟩
          have f15 : IntKind.i64.wrap ((t3 : Int) - 15) = (a15 : Int) := by rw [IntWalk.i64_in _ (by omega)]; omega
          have f16 : IntKind.i64.wrap ((t3 : Int) - 16) = (a16 : Int) := by rw [IntWalk.i64_in _ (by omega)]; omega
          have f7 : IntKind.i64.wrap ((t3 : Int) - 7) = (a7 : Int) := by rw [IntWalk.i64_in _ (by omega)]; omega
          have f2 : IntKind.i64.wrap ((t3 : Int) - 2) = (a2 : Int) := by rw [IntWalk.i64_in _ (by omega)]; omega
          obtain ⟨v, hv⟩ : ∃ v, sched b t3 = v := ⟨_, rfl⟩
          rw [hv] at hV
          have hvl : v.length = 80 := by rw [← hv, sched_len]
          have hvw : Ws v := hv ▸ sched_W HBB.out t3
          have c15 := hV.aw.cell a15 (by omega)
          have c2 := hV.aw.cell a2 (by omega)
          have b15 : (a15 : Int) < 80 := by omega
          have b16 : (a16 : Int) < 80 := by omega
          have b7 : (a7 : Int) < 80 := by omega
          have b2 : (a2 : Int) < 80 := by omega
          have E : Hid (ad (ad (ad (sg1 (gt v a2)) (gt v a7)) (sg0 (gt v a15))) (gt v a16) = mixP v t3) := by show _ = mixP v t3; rw [← mixR_eq, mixR, e15, e16, e7, e2]
          have HV := Lib.hid hv
          have HVW := Lib.hid hvw
          have HVL := Lib.hid hvl
          clear e15 e16 e7 e2 hv hvw hvl
          go_wp2_with fail
          go_quiet ((go_at_call 56; exact Calls.quiet_of_same (rrot_any _ _ _ (HVW.out.gt _) (by decide) (by decide))))
          obtain ⟨qa, rfl⟩ : ∃ q, q = nq := ⟨_, rfl⟩
          go_wp2_with fail
          go_quiet ((go_at_call 56; exact qadd (rrot_any _ _ _ (HVW.out.gt _) (by decide) (by decide))))
          have hV2 := (hV.drewN qa).drewN nq
          change Exit.then _ _ _ _ ((wr.drewN qa).drewN nq)
          generalize (wr.drewN qa).drewN nq = w2 at hV2 ⊢
          have hvl := HVL.out
          have c16 := hV2.aw.cell a16 (by omega)
          have c7 := hV2.aw.cell a7 (by omega)
          have fr := hV2.aw.free t3
          have cw := hV2.aw.cell t3 (by omega)
          clear hvl
          go_wp2_with fail
          go_still_tail 15, (by kernel_rfl)
          repeat still_step
          change wpList _ _ _ _ _ w2.drew
          go_wp2_with fail
          go_roundg (80 - (t3 + 1))
          case measure => have := HGK.out; omega
          case rel =>
            refine ⟨t3 + 1, by go_num, by omega, by omega, rfl, ?_⟩
            rw [sched, if_neg (by omega), HV.out, ← E.out]
            exact (hV2.drewN 1).setW hBC t3 (ad (ad (ad (sg1 (gt v a2)) (gt v a7)) (sg0 (gt v a15))) (gt v a16))
        · have hlt3I : ¬ (t3 : Int) < 80 := by omega
          have h80' : t3 = 80 := by omega
          obtain ⟨v, hv⟩ : ∃ v, sched b t3 = v := ⟨_, rfl⟩
          have hV80 : V5 w B C s v wr := hv ▸ hV
          have hkeep : ∀ t, t < 80 → gt v t = gt (sched b (t + 1)) t := fun t ht => by rw [← hv]; exact sched_keep b t t3 (by omega) (by omega)
          have hvl : v.length = 80 := by rw [← hv, sched_len]
          have HKP := Lib.hid hkeep
          have HVL := Lib.hid hvl
          have d0 := hV80.a0.cell 0 (by omega)
          have d1 := hV80.a0.cell 1 (by omega)
          have d2 := hV80.a0.cell 2 (by omega)
          have d3 := hV80.a0.cell 3 (by omega)
          have d4 := hV80.a0.cell 4 (by omega)
          have d5 := hV80.a0.cell 5 (by omega)
          have d6 := hV80.a0.cell 6 (by omega)
          have d7 := hV80.a0.cell 7 (by omega)
          clear hV h80' HGK hv hkeep hvl
          go_wp2_with fail
          go_quiet (fail)
          go_wp2_with fail
          go_quiet (fail)
          go_wp2_with fail
          go_loopg [12, 13, 14, 15, 16, 17, 18, 19, 20] 80 (fun gk xa xb xc xd xe xf xg xh x wr => P4 w B C s b v gk xa xb xc xd xe xf xg xh x wr)
          case atStart => exact ⟨0, s, rfl, rfl, Nat.zero_le _, rfl, rfl, rfl, rfl, rfl, rfl, rfl, rfl, rfl, (hV80.drewN _).drewN _⟩
          case round =>
            clear d0 d1 d2 d3 d4 d5 d6 d7 hV80
            obtain ⟨t, z, hz_, rfl, ht80, hgk, rfl, rfl, rfl, rfl, rfl, rfl, rfl, rfl, hV⟩ := hrel
            have HGK := Lib.hid hgk
            have hzl : z.length = 8 := by rw [← hz_, rnds_len b hs]
            have hzw : Ws z := hz_ ▸ rnds_W b HSW.out t
            have HZ := Lib.hid hz_
            have HZW := Lib.hid hzw
            have HZL := Lib.hid hzl
            clear hgk hz_ hzw hzl
            by_cases hlt4 : t < 80
            · have hlt4I : (t : Int) < 80 := by omega
              have cw := hV.aw.cell t (by rw [HVL.out]; exact hlt4)
              have ck := hV.ak.cell t (by rw [k5_len]; exact hlt4)
              go_wp2_with fail
              go_quiet ((go_at_call 56; exact Calls.quiet_of_same (rrot_any _ _ _ (HZW.out.gt _) (by decide) (by decide))))
              go_wp2_with (go_at_call 56; refine (rrot_any _ _ _ (HZW.out.gt _) (by decide) (by decide)).mono ?_; rintro e w' ⟨rfl, rfl⟩)
              go_roundg (80 - (t + 1))
              case measure => have := HGK.out; omega
              case rel =>
                refine ⟨t + 1, rnd z (gt k5L t) (gt v t), by rw [rnds, HZ.out, HKP.out t hlt4], by go_num, by omega, rfl, ?_, rfl, rfl, rfl, ?_, rfl, rfl, rfl, ?_⟩
                · rw [show gt (rnd z (gt k5L t) (gt v t)) 0 = ad (t1P z (gt k5L t) (gt v t)) (t2P z) from rfl, t1P, ch, ← not_max]; rfl
                · rw [show gt (rnd z (gt k5L t) (gt v t)) 4 = ad (gt z 3) (t1P z (gt k5L t) (gt v t)) from rfl, t1P, ch, ← not_max]; rfl
                · exact hV.drewN _
            · have hlt4I : ¬ (t : Int) < 80 := by omega
              have h80' : t = 80 := by omega
              have d0 := hV.a0.cell 0 (by omega)
              have d1 := hV.a0.cell 1 (by omega)
              have d2 := hV.a0.cell 2 (by omega)
              have d3 := hV.a0.cell 3 (by omega)
              have d4 := hV.a0.cell 4 (by omega)
              have d5 := hV.a0.cell 5 (by omega)
              have d6 := hV.a0.cell 6 (by omega)
              have d7 := hV.a0.cell 7 (by omega)
              have hfin : Hid (turnR s z = turn5 s b) := by
                show turnR s z = turn5 s b
                rw [turn5, turnR_eq s z HZL.out]
                congr 1
                have h := HZ.out
                rw [h80'] at h
                exact h.symm
              clear h80' HGK
              go_wp2_with (refine wpList_store_arr (m := turnR s z) (o := ⟨none, _, _, _, _, _⟩) rfl 75 _ _ rfl rfl rfl hV.a1 8 inf_a8r rfl (by simp) ?_)
              refine bodyPost_arr 4 75 8 Tryd.underlying75 rfl inf_a8r rfl rfl rfl (hV.a1.setRow (turnR s z)) rfl ⟨by rw [hfin.out], ?_⟩
              exact hHB.out ▸ (hV.k.setRow (B + 1) _ (.inl (by omega))).below

end Go.Proofs.YteidkdpfjponfaaDoor
