/- sha5.turn, walked. Conditions: a state of 8 words, a block of 128 bytes; the tables. -/
import Derived.Test.YteidkdpfjponfaaDoorS5A
import Derived.Deep.DeepCutAuto
import Derived.Deep.CutBlock
namespace Go.Proofs.YteidkdpfjponfaaDoor
open Go.RowKit
set_option linter.unusedVariables false
set_option linter.unusedSimpArgs false

theorem inf_a8 : (Tryd.prog.info? 75).map (·.size) = some 8 := by kernel_rfl
theorem inf_a80 : (Tryd.prog.info? 78).map (·.size) = some 80 := by kernel_rfl
theorem beN_cut (b : List Int) (o : Nat) : ∀ m, m ≤ 8 → beN ((b.take (o + 8)).drop o) m = beN (b.drop o) m
  | 0, _ => rfl
  | m + 1, h => by rw [beN, beN, beN_cut b o m (by omega), gt_drop, gt_drop, gt_take _ _ _ (by omega)]
def zs8 : List Int := List.replicate 8 0
def zs80 : List Int := List.replicate 80 0
theorem zs8_len : zs8.length = 8 := rfl
theorem zs80_len : zs80.length = 80 := by decide
theorem zero80 (w : World) : (zeroValue 78).run Tryd.prog w = .ok (.agg (U .u64 zs80)) w := by kernel_rfl
theorem zero8 : #[Value.int .u64 0, .int .u64 0, .int .u64 0, .int .u64 0, .int .u64 0, .int .u64 0, .int .u64 0, .int .u64 0] = U .u64 zs8 := rfl
/-- Between the rounds, and within one. -/
structure T5 (w0 : World) (B : Nat) (s z v : List Int) (w : World) : Prop where
  a0 : Arr w B 75 .u64 s
  a1 : Arr w (B + 1) 75 .u64 zs8
  aw : Arr w (B + 2) 78 .u64 v
  as_ : Arr w (B + 3) 75 .u64 z
  k : Kept B (fun _ => False) w0 w
theorem T5.drewN {w0 w : World} {B : Nat} {s z v : List Int} (h : T5 w0 B s z v w) (q : Nat) : T5 w0 B s z v (w.drewN q) := ⟨h.a0, h.a1, h.aw, h.as_, h.k.drewN q⟩
theorem T5.setW {w0 w : World} {B : Nat} {s z v : List Int} (h : T5 w0 B s z v w) (i : Nat) (x : Int) : T5 w0 B s z (st v i x) (w.setCell ⟨B + 2, i, none⟩ (.int .u64 x)) :=
  ⟨h.a0.other _ _ _ (by omega), h.a1.other _ _ _ (by omega), h.aw.set i x, h.as_.other _ _ _ (by omega), h.k.set _ _ _ (.inl (by omega))⟩
theorem T5.setS {w0 w : World} {B : Nat} {s z v : List Int} (h : T5 w0 B s z v w) (i : Nat) (x : Int) : T5 w0 B s (Proofs.YteidkdpfjponfaaDoor.st z i x) v (w.setCell ⟨B + 3, i, none⟩ (.int .u64 x)) :=
  ⟨h.a0.other _ _ _ (by omega), h.a1.other _ _ _ (by omega), h.aw.other _ _ _ (by omega), h.as_.set i x, h.k.set _ _ _ (.inl (by omega))⟩
theorem T5.rowS {w0 w : World} {B : Nat} {s z v : List Int} (h : T5 w0 B s z v w) (m : List Int) : T5 w0 B s m v (w.setRow (B + 3) (U .u64 m)) :=
  ⟨h.a0.otherRow _ _ (by omega), h.a1.otherRow _ _ (by omega), h.aw.otherRow _ _ (by omega), h.as_.setRow m, h.k.setRow _ _ (.inl (by omega))⟩

def L5 (w0 : World) (B : Nat) (s b : List Int) (gk : Nat) (v : Value) (w : World) : Prop :=
  ∃ t : Nat, v = .int .i64 t ∧ t ≤ 80 ∧ gk = 80 - t ∧ T5 w0 B s (rnds b s t) (sched b t) w
def M5 (w0 : World) (B : Nat) (s b : List Int) (t : Nat) (w : World) : Prop := T5 w0 B s (rnds b s t) (sched b (t + 1)) w
def A5 (w0 : World) (B : Nat) (s b z v : List Int) (gk : Nat) (x : Value) (w : World) : Prop :=
  ∃ i : Nat, x = .int .i64 i ∧ i ≤ 8 ∧ gk = 8 - i ∧ T5 w0 B s (addN s z i) v w
set_option maxRecDepth 100000 in
set_option maxHeartbeats 4000000 in
theorem turn5_any (s b : List Int) (A : Option Addr) (c BB : Nat) (w : World) (hs : s.length = 8) (hsw : Ws s) (hr : Rd w BB .u8 A b) (hBB : BB ≤ w.heap.size) (hb : Bys b) (hbl : b.length = 128) (hc : 128 ≤ c) (ht : Tab w 3 .u64 k5L) (hz : 3 < w.heap.size) :
    Calls Tryd.prog 53 #[.agg (U .u64 s), .slice A 128 c] w fun e w' => e = .returned (.agg (U .u64 (turn5 s b))) ∧ Below w.heap.size w w' := by
  have z80 := zero80
  have z8 := zero8
  have hA1 := (Arr.new w 75 .u64 s).alloc (.cells (U .u64 zs8) 75)
  have hN1 := Arr.new (w.alloc (.cells (U .u64 s) 75)) 75 .u64 zs8
  have hK1 := ((Kept.refl w.heap.size (fun _ => False) w).alloc (.cells (U .u64 s) 75) (Nat.le_refl _)).alloc (.cells (U .u64 zs8) 75) (by simp)
  obtain ⟨B, hB⟩ : ∃ B, w.heap.size = B := ⟨_, rfl⟩
  rw [hB] at hA1 hK1
  rw [show (w.alloc (.cells (U .u64 s) 75)).heap.size = B + 1 by simp [hB]] at hN1
  have hs1 : ((w.alloc (.cells (U .u64 s) 75)).alloc (.cells (U .u64 zs8) 75)).heap.size = B + 2 := by simp [hB]
  have hHB := Lib.hid hB
  rw [hB] at hz hBB
  go_enter Tryd.func53, Tryd.ntmps53
  go_upto_region 1 with fail
  generalize (w.alloc (.cells (U .u64 s) 75)).alloc (.cells (U .u64 zs8) 75) = w1 at hA1 hN1 hK1 hs1 ⊢
  have hA2 := hA1.alloc (.cells (U .u64 zs80) 78)
  have hN2 := hN1.alloc (.cells (U .u64 zs80) 78)
  have hM2 := Arr.new w1 78 .u64 zs80
  have hK2 := hK1.alloc (.cells (U .u64 zs80) 78) (by omega)
  rw [hs1] at hM2
  have hs2 : (w1.alloc (.cells (U .u64 zs80) 78)).heap.size = B + 3 := by simp [hs1]
  clear hA1 hN1 hK1
  go_upto_region 2 with fail
  generalize w1.alloc (.cells (U .u64 zs80) 78) = w2 at hA2 hN2 hM2 hK2 hs2 ⊢
  have hA3 := hA2.alloc (.cells (U .u64 zs8) 75)
  have hN3 := hN2.alloc (.cells (U .u64 zs8) 75)
  have hM3 := hM2.alloc (.cells (U .u64 zs8) 75)
  have hS3 := Arr.new w2 75 .u64 zs8
  have hK3 := hK2.alloc (.cells (U .u64 zs8) 75) (by omega)
  rw [hs2] at hS3
  have hs3 : (w2.alloc (.cells (U .u64 zs8) 75)).heap.size = B + 4 := by simp [hs2]
  go_upto_region 3 with (first | (refine wpList_load_arr (o := ⟨some 17, _, _, _, _, _⟩) rfl 75 _ rfl rfl hA2 Tryd.underlying75 rfl 8 inf_a8 hs ?_) | (refine wpList_store_arr (o := ⟨none, _, _, _, _, _⟩) rfl 75 _ _ rfl rfl rfl hS3 8 inf_a8 hs rfl ?_))
  have h0 : T5 w B s s zs80 ((w2.alloc (.cells (U .u64 zs8) 75)).setRow (B + 3) (U .u64 s)) :=
    ⟨hA3.otherRow _ _ (by omega), hN3.otherRow _ _ (by omega), hM3.otherRow _ _ (by omega), hS3.setRow s, hK3.setRow _ _ (.inl (by omega))⟩
  change Code.wp _ _ _ _ ((w2.alloc (.cells (U .u64 zs8) 75)).setRow (B + 3) (U .u64 s))
  generalize (w2.alloc (.cells (U .u64 zs8) 75)).setRow (B + 3) (U .u64 s) = w3 at h0 ⊢
  clear hA2 hN2 hM2 hK2 hs2 hA3 hN3 hM3 hS3 hK3 hs3 hs1
  have HSW := Lib.hid hsw
  have HBB := Lib.hid hb
  have HBL := Lib.hid hbl
  clear hsw hb hbl z80 z8 hB
  go_wp2_with fail
  go_loopg [18] 80 (fun gk v wr => L5 w B s b gk v wr)
  case atStart => exact ⟨0, rfl, Nat.zero_le _, rfl, h0⟩
  case round =>
    clear h0
    obtain ⟨t, rfl, ht80, hgk, hT⟩ := hrel
    have HGK := Lib.hid hgk
    clear hgk
    have hBr : B ≤ wr.heap.size := by have := hT.k.size; have := hHB.out; omega
    by_cases hlt : t < 80
    · have hltI : (t : Int) < 80 := by omega
      have hRb := hr.kept hT.k hBB (fun _ _ h => h)
      have hschl := sched_len b t
      have hschw := sched_W HBB.out t
      have hfw := hT.aw.free t
      have hcw := hT.aw.cell t (by rw [hschl]; omega)
      have HSL := Lib.hid hschl
      clear hschl
      go_upto_if 22 with fail
      go_cut [] (fun wx => M5 w B s b t wx)
      case first =>
        by_cases h16 : t < 16
        · have h16I : (t : Int) < 16 := by omega
          obtain ⟨o, ho⟩ : ∃ o : Nat, (t : Int) * 8 = (o : Int) := ⟨t * 8, by omega⟩
          obtain ⟨o2, ho2⟩ : ∃ o : Nat, ((t : Int) + 1) * 8 = (o : Int) := ⟨t * 8 + 8, by omega⟩
          have e1 : o2 - o = 8 := by omega
          have e2 : o2 = o + 8 := by omega
          have e3 : o = 8 * t := by omega
          have hsl := fun wx => run_slice_ab (P := Tryd.prog) 22 5 Tryd.underlying22 (by kernel_rfl) A 128 c o o2 (by omega) (by omega) .i64 .i64 wx
          have hcut := hRb.cut o o2 c (by have := HBL.out; omega) (by omega)
          obtain ⟨A2, hA2⟩ : ∃ A2, (if c = o then A else A.map (·.add o)) = A2 := ⟨_, rfl⟩
          obtain ⟨c2, hc2⟩ : ∃ c2, c - o = c2 := ⟨_, rfl⟩
          rw [e1, hA2, hc2] at hsl
          rw [hA2] at hcut
          have hcl : ((b.take o2).drop o).length = 8 := by simp; have := HBL.out; omega
          have hbe : beN ((b.take o2).drop o) 8 = beN (b.drop (8 * t)) 8 := by rw [e2, beN_cut b o 8 (Nat.le_refl _), e3]
          have HBE := Lib.hid hbe
          have HCL := Lib.hid hcl
          have HO := Lib.hid ho
          clear hcl hbe hA2 hc2 e1 e2 e3
          go_wp2_with (go_at_call 47; refine (get_any ((b.take o2).drop o) A2 c2 _ 8 _ hcut ((HBB.out.take _).drop _) HCL.out (Nat.le_refl _)).mono ?_; rintro e w' ⟨rfl, rfl⟩)
          go_meet
          case rel =>
            have h := hT.setW t (beN (b.drop (8 * t)) 8)
            unfold M5
            rw [sched, if_pos h16, HBE.out]
            exact h
        · have h16I : ¬ (t : Int) < 16 := by omega
          go_wp2_with (go_at_call 57; refine (mix5_any (sched b t) (B + 2) 78 t wr HSL.out hschw hT.aw (by omega) hlt).mono ?_; rintro e w' ⟨rfl, q, rfl⟩)
          go_meet
          case rel =>
            have h := (hT.drewN q).setW t (mixP (sched b t) t)
            unfold M5
            rw [sched, if_neg h16]
            exact h
      case rest =>
        clear hT hRb hschw hfw hcw
        have hTr : T5 w B s (rnds b s t) (sched b (t + 1)) wc := hcut
        obtain ⟨z, hz_⟩ : ∃ z, rnds b s t = z := ⟨_, rfl⟩
        obtain ⟨v, hv⟩ : ∃ v, sched b (t + 1) = v := ⟨_, rfl⟩
        rw [hz_, hv] at hTr
        have hzl : z.length = 8 := by rw [← hz_, rnds_len b hs]
        have hzw : Ws z := hz_ ▸ rnds_W b HSW.out t
        have hvl : v.length = 80 := by rw [← hv, sched_len]
        have hnext : Hid (rnd z (gt k5L t) (gt v t) = rnds b s (t + 1)) := by show rnd z _ _ = _; rw [rnds, hz_, hv]
        have HV := Lib.hid hv
        have c0 := hTr.as_.cell 0 (by omega)
        have c1 := hTr.as_.cell 1 (by omega)
        have c2 := hTr.as_.cell 2 (by omega)
        have c3 := hTr.as_.cell 3 (by omega)
        have c4 := hTr.as_.cell 4 (by omega)
        have c5 := hTr.as_.cell 5 (by omega)
        have c6 := hTr.as_.cell 6 (by omega)
        have c7 := hTr.as_.cell 7 (by omega)
        have cw := hTr.aw.cell t (by omega)
        have ck := ht.kept hTr.k hz (fun h => h) t (by rw [k5_len]; exact hlt)
        have HZL := Lib.hid hzl
        have HZW := Lib.hid hzw
        clear hz_ hv hzl hzw hvl hcut
        have hsg : IntKind.u64.signed = false := rfl
        go_wp2_with fail
        go_quiet (fail)
        go_wp2_with fail
        go_quiet ((go_at_call 58; exact qadd (rot5_any _ _ _ (HZW.out.gt _) (by decide) (by decide))))
        go_wp2_with (first | (go_at_call 58; refine (rot5_any _ _ _ (HZW.out.gt _) (by decide) (by decide)).mono ?_; rintro e w' ⟨rfl, rfl⟩) | (refine wpList_store_arr (m := rnd z (gt k5L t) (gt v t)) (o := ⟨none, _, _, _, _, _⟩) rfl 75 _ _ rfl rfl rfl (hTr.as_.drewN _) 8 inf_a8 rfl HZL.out ?_))
        go_roundg (80 - (t + 1))
        case measure => have := HGK.out; omega
        case rel =>
          refine ⟨t + 1, by go_num, by omega, rfl, ?_⟩
          rw [HV.out]
          have h2 : ∀ {r : List Int} {w9 : World}, Hid (r = rnds b s (t + 1)) → T5 w B s r v w9 → T5 w B s (rnds b s (t + 1)) v w9 := fun e x => e.out ▸ x
          exact h2 hnext ((hTr.drewN _).rowS _)
    · have hltI : ¬ (t : Int) < 80 := by omega
      obtain rfl : t = 80 := by omega
      obtain ⟨z, hz_⟩ : ∃ z, rnds b s 80 = z := ⟨_, rfl⟩
      obtain ⟨v, hv⟩ : ∃ v, sched b 80 = v := ⟨_, rfl⟩
      rw [hz_, hv] at hT
      have hzl : z.length = 8 := by rw [← hz_, rnds_len b hs]
      have HZ := Lib.hid hz_
      have HZL := Lib.hid hzl
      clear hz_ hv hzl HGK
      go_wp2_with fail
      go_loopg [115] 8 (fun gk x wr => A5 w B s b z v gk x wr)
      case atStart => exact ⟨0, rfl, Nat.zero_le _, rfl, hT⟩
      case round =>
        clear hT hBr
        obtain ⟨i, rfl, hi, hgk, hT⟩ := hrel
        have HGK := Lib.hid hgk
        clear hgk
        by_cases hlt : i < 8
        · have hltI : (i : Int) < 8 := by omega
          have c1 := hT.as_.cell i (by rw [addN_len]; have := HZL.out; omega)
          have c2 := hT.a0.cell i (by omega)
          have f1 := hT.as_.free i
          go_wp2_with fail
          go_still_tail 8, (by kernel_rfl)
          repeat still_step
          change wpList _ _ _ _ _ wr.drew
          go_wp2_with fail
          go_roundg (8 - (i + 1))
          case measure => have := HGK.out; omega
          case rel => exact ⟨i + 1, by go_num, by omega, rfl, (hT.drewN 1).setS i (ad (gt (addN s z i) i) (gt s i))⟩
        · have hltI : ¬ (i : Int) < 8 := by omega
          obtain rfl : i = 8 := by omega
          have hln : (addN s z 8).length = 8 := by rw [addN_len]; exact HZL.out
          obtain ⟨F, hF⟩ : ∃ F, addN s z 8 = F := ⟨_, rfl⟩
          rw [hF] at hT hln
          have HF : Hid (turn5 s b = F) := by show turn5 s b = F; rw [turn5, HZ.out, hF]
          clear hF
          go_wp2_with (first | (refine wpList_load_arr (o := ⟨some 127, _, _, _, _, _⟩) rfl 75 _ rfl rfl hT.as_ Tryd.underlying75 rfl 8 inf_a8 hln ?_) | (refine wpList_store_arr (o := ⟨none, _, _, _, _, _⟩) rfl 75 _ _ rfl rfl rfl hT.a1 8 inf_a8 hln rfl ?_))
          refine bodyPost_arr 4 75 8 Tryd.underlying75 rfl inf_a8 rfl rfl rfl (hT.a1.setRow F) hln ⟨by rw [HF.out], ?_⟩
          exact hHB.out ▸ (hT.k.setRow (B + 1) _ (.inl (by omega))).below

end Go.Proofs.YteidkdpfjponfaaDoor
