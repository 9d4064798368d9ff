/- sha2.Turn, walked. Conditions: a state of 8 words, a block of 64 bytes; the tables. -/
import Derived.Test.YtfaonieaagepjaaDoorS2B
namespace Go.Proofs.YtfaonieaagepjaaDoor
open Go.RowKit
set_option linter.unusedVariables false
set_option linter.unusedSimpArgs false

def zw8 : List Int := List.replicate 8 0
theorem zw8_len : zw8.length = 8 := rfl
theorem zerow8 : #[Value.int .u32 0, .int .u32 0, .int .u32 0, .int .u32 0, .int .u32 0, .int .u32 0, .int .u32 0, .int .u32 0] = U .u32 zw8 := rfl
/-- Between the rounds: the state that came, the block, the result's box, the state that turns. -/
structure Uw (w0 : World) (B : Nat) (s b z : List Int) (w : World) : Prop where
  a0 : Arr w B 96 .u32 s
  ab : Arr w (B + 1) 104 .u8 b
  a1 : Arr w (B + 2) 96 .u32 zw8
  as_ : Arr w (B + 3) 96 .u32 z
  k : Kept B (fun _ => False) w0 w
theorem Uw.drewN {w0 w : World} {B : Nat} {s b z : List Int} (h : Uw w0 B s b z w) (q : Nat) : Uw w0 B s b z (w.drewN q) := ⟨h.a0, h.ab, h.a1, h.as_, h.k.drewN q⟩
theorem Uw.setS {w0 w : World} {B : Nat} {s b z : List Int} (h : Uw w0 B s b z w) (i : Nat) (x : Int) : Uw w0 B s b (Proofs.YtfaonieaagepjaaDoor.st z i x) (w.setCell ⟨B + 3, i, none⟩ (.int .u32 x)) :=
  ⟨h.a0.other _ _ _ (by omega), h.ab.other _ _ _ (by omega), h.a1.other _ _ _ (by omega), h.as_.set i x, h.k.set _ _ _ (.inl (by omega))⟩
theorem Uw.rowS {w0 w : World} {B : Nat} {s b z : List Int} (h : Uw w0 B s b z w) (m : List Int) : Uw w0 B s b m (w.setRow (B + 3) (U .u32 m)) :=
  ⟨h.a0.otherRow _ _ (by omega), h.ab.otherRow _ _ (by omega), h.a1.otherRow _ _ (by omega), h.as_.setRow m, h.k.setRow _ _ (.inl (by omega))⟩
theorem Uw.below {w0 w w' : World} {B : Nat} {s b z : List Int} (h : Uw w0 B s b z w) (hk : Below w.heap.size w w') (hB : B + 4 ≤ w.heap.size) : Uw w0 B s b z w' :=
  ⟨h.a0.below hk (by omega), h.ab.below hk (by omega), h.a1.below hk (by omega), h.as_.below hk (by omega), h.k.trans (S' := fun _ => False) (Kept.of_below hk) (by omega) (fun _ _ h => h)⟩
def Lu (w0 : World) (B : Nat) (s b : List Int) (gk : Nat) (v : Value) (w : World) : Prop :=
  ∃ t : Nat, v = .int .i64 t ∧ t ≤ 64 ∧ gk = 64 - t ∧ Uw w0 B s b (rndsw b s t) w
def Au (w0 : World) (B : Nat) (s b z : List Int) (gk : Nat) (x : Value) (w : World) : Prop :=
  ∃ i : Nat, x = .int .i64 i ∧ i ≤ 8 ∧ gk = 8 - i ∧ Uw w0 B s b (addw s z i) w
set_option maxRecDepth 100000 in
set_option maxHeartbeats 4000000 in
theorem turn2_any (s b F : List Int) (w : World) (hF : turn2 s b = F) (hs : s.length = 8) (hsw : Ww s) (hb : Bys b) (hbl : b.length = 64) (ht : Tab w 1 .u32 k2L) (hz : 1 < w.heap.size) :
    Calls Tryd.prog 80 #[.agg (U .u32 s), .agg (U .u8 b)] w fun e w' => e = .returned (.agg (U .u32 F)) ∧ Below w.heap.size w w' := by
  have z8 := zerow8
  obtain ⟨V, hV⟩ : ∃ V, schw b 64 = V := ⟨_, rfl⟩
  have hsp := fun w => spread_any b w hb hbl
  rw [hV] at hsp
  have hVl : V.length = 64 := by rw [← hV]; exact schw_len b 64
  have hkeep : ∀ t, t < 64 → gt V t = gt (schw b (t + 1)) t := fun t ht => by rw [← hV]; exact schw_keep b t 64 ht (Nat.le_refl _)
  have HKP := Lib.hid hkeep
  have HF := Lib.hid hF
  clear hV hkeep hF
  obtain ⟨B, hB⟩ : ∃ B, w.heap.size = B := ⟨_, rfl⟩
  obtain ⟨w3, hw3⟩ : ∃ w3, ((w.alloc (.cells (U .u32 s) 96)).alloc (.cells (U .u8 b) 104)).alloc (.cells (U .u32 zw8) 96) = w3 := ⟨_, rfl⟩
  have hs1 : (w.alloc (.cells (U .u32 s) 96)).heap.size = B + 1 := by simp [hB]
  have hs2 : ((w.alloc (.cells (U .u32 s) 96)).alloc (.cells (U .u8 b) 104)).heap.size = B + 2 := by simp [hB]
  have hs3 : w3.heap.size = B + 3 := by rw [← hw3]; simp [hB]
  have hA := Arr.new w 96 .u32 s
  have hN := Arr.new (w.alloc (.cells (U .u32 s) 96)) 104 .u8 b
  have hW := Arr.new ((w.alloc (.cells (U .u32 s) 96)).alloc (.cells (U .u8 b) 104)) 96 .u32 zw8
  rw [hB] at hA
  rw [hs1] at hN
  rw [hs2] at hW
  have hA3 : Arr w3 B 96 .u32 s := by rw [← hw3]; exact (hA.alloc _).alloc _
  have hN3 : Arr w3 (B + 1) 104 .u8 b := by rw [← hw3]; exact hN.alloc _
  have hW3 : Arr w3 (B + 2) 96 .u32 zw8 := by rw [← hw3]; exact hW
  have hK3 : Kept B (fun _ => False) w w3 := by rw [← hw3]; exact (((Kept.refl _ _ w).alloc _ (by omega)).alloc _ (by omega)).alloc _ (by omega)
  rw [hB] at hz ⊢
  have HB := Lib.hid hB
  clear hs1 hs2 hA hN hW
  go_enter Tryd.func80, Tryd.ntmps80
  go_upto_region 1 with fail
  clear hw3
  obtain ⟨w4, hw4⟩ : ∃ w4, w3.alloc (.cells (U .u32 zw8) 96) = w4 := ⟨_, rfl⟩
  have hS4 : Arr w4 (B + 3) 96 .u32 zw8 := by rw [← hw4, ← hs3]; exact Arr.new w3 96 .u32 zw8
  go_upto_region 2 with (first | (refine wpList_load_arr (o := ⟨some 17, _, _, _, _, _⟩) rfl 96 _ rfl rfl hA3 Tryd.underlying96 rfl 8 inf_w8 hs ?_) | (refine wpList_store_arr (o := ⟨none, _, _, _, _, _⟩) rfl 96 _ _ rfl rfl rfl hS4 8 inf_w8 hs rfl ?_))
  have h4 : Uw w B s b s (w4.setRow (B + 3) (U .u32 s)) := by
    have h : Uw w B s b zw8 w4 := by
      rw [← hw4]
      exact ⟨hA3.alloc _, hN3.alloc _, hW3.alloc _, by rw [hw4]; exact hS4, hK3.alloc _ (by omega)⟩
    exact h.rowS s
  have hs4 : B + 4 ≤ (w4.setRow (B + 3) (U .u32 s)).heap.size := by rw [← hw4]; simp [hs3]
  change Code.wp _ _ _ _ (w4.setRow (B + 3) (U .u32 s))
  generalize w4.setRow (B + 3) (U .u32 s) = w5 at h4 hs4 ⊢
  clear hw4 hS4 hA3 hN3 hW3 hK3 hs3 z8
  go_wp2_with (refine wpList_load_arr (o := ⟨some 18, _, _, _, _, _⟩) rfl 104 _ rfl rfl h4.ab Tryd.underlying104 rfl 64 inf_b64 hbl ?_)
  refine (hsp w5).mono ?_
  rintro e w6 ⟨rfl, hb6⟩
  have h6 := h4.below hb6 hs4
  have hs6 : B + 4 ≤ w6.heap.size := Nat.le_trans hs4 hb6.size
  clear hsp h4 hb6
  have HSW := Lib.hid hsw
  have HBB := Lib.hid hb
  clear hsw hb
  go_wp2_with fail
  go_loopg [20] 64 (fun gk v wr => Lu w B s b gk v wr)
  case atStart => exact ⟨0, rfl, Nat.zero_le _, rfl, h6⟩
  case round =>
    clear h6
    obtain ⟨t, rfl, ht64, hgk, hT⟩ := hrel
    have HGK := Lib.hid hgk
    clear hgk
    by_cases hlt : t < 64
    · have hltI : (t : Int) < 64 := by omega
      have hix := run_index_arr (P := Tryd.prog) Tryd.underlying111 Tryd.underlying26 (show (Tryd.prog.info? 26).map (·.size) = some 1 by kernel_rfl) hVl t hlt (k := .u32)
      obtain ⟨x, hx⟩ : ∃ x, gt V t = x := ⟨_, rfl⟩
      rw [hx] at hix
      have hxs : x = gt (schw b (t + 1)) t := by rw [← hx]; exact HKP.out t hlt
      obtain ⟨z, hz_⟩ : ∃ z, rndsw b s t = z := ⟨_, rfl⟩
      rw [hz_] at hT
      have hzl : z.length = 8 := by rw [← hz_, rndsw_len b hs]
      have hzw : Ww z := hz_ ▸ rndsw_W b HSW.out t
      have hnext : Hid (rndw z (gt k2L t) x = rndsw b s (t + 1)) := by show rndw z _ _ = _; rw [rndsw, hz_, hxs]
      have c0 := hT.as_.cell 0 (by omega)
      have c1 := hT.as_.cell 1 (by omega)
      have c2 := hT.as_.cell 2 (by omega)
      have c3 := hT.as_.cell 3 (by omega)
      have c4 := hT.as_.cell 4 (by omega)
      have c5 := hT.as_.cell 5 (by omega)
      have c6 := hT.as_.cell 6 (by omega)
      have c7 := hT.as_.cell 7 (by omega)
      have ck := ht.kept hT.k hz (fun h => h) t (by rw [k2_len]; exact hlt)
      have HZL := Lib.hid hzl
      have HZW := Lib.hid hzw
      clear hz_ hzl hzw hx hxs
      have hsg : IntKind.u32.signed = false := rfl
      go_wp2_with fail
      go_quiet (fail)
      obtain ⟨na, rfl⟩ : ∃ q, q = nq := ⟨_, rfl⟩
      go_wp2_with fail
      go_quiet ((go_at_call 89; exact qaddw (rot2_any _ _ _ (HZW.out.gt _) (by decide) (by decide))))
      generalize h1 : (((gt z 7 + bits .xor .u32 (bits .xor .u32 (rw2 (gt z 4) 6) (rw2 (gt z 4) 11)) (rw2 (gt z 4) 25) + bits .xor .u32 (bits .and .u32 (gt z 4) (gt z 5)) (bits .and .u32 (bits .xor .u32 IntKind.u32.max (gt z 4)) (gt z 6)) + gt k2L t) % 4294967296 + x) % 4294967296) = T1
      have e1 : T1 = t1W z (gt k2L t) x := by
        rw [← h1]
        show _ = aw (aw (aw (aw (gt z 7) (Sw1 (gt z 4))) (chw (gt z 4) (gt z 5) (gt z 6))) (gt k2L t)) x
        unfold aw
        simp only [IntKind.wrap_u32]
        show (((gt z 7 + Sw1 (gt z 4) + chw (gt z 4) (gt z 5) (gt z 6) + gt k2L t) % 4294967296 + x) % 4294967296) = _
        omega
      have E1 := Lib.hid e1
      clear h1 e1
      go_upto_region 8 with (go_at_call 89; refine (rot2_any _ _ _ (HZW.out.gt _) (by decide) (by decide)).mono ?_; rintro e w' ⟨rfl, rfl⟩)
      generalize h2 : ((bits .xor .u32 (bits .xor .u32 (rw2 (gt z 0) 2) (rw2 (gt z 0) 13)) (rw2 (gt z 0) 22) + bits .xor .u32 (bits .xor .u32 (bits .and .u32 (gt z 0) (gt z 1)) (bits .and .u32 (gt z 0) (gt z 2))) (bits .and .u32 (gt z 1) (gt z 2))) % 4294967296) = T2
      have e2 : T2 = t2W z := by
        rw [← h2]
        show _ = aw (Sw0 (gt z 0)) (majw (gt z 0) (gt z 1) (gt z 2))
        unfold aw
        rw [IntKind.wrap_u32]
        rfl
      have E2 := Lib.hid e2
      clear h2 e2
      have hrow : [(T1 + T2) % 4294967296, gt z 0, gt z 1, gt z 2, (gt z 3 + T1) % 4294967296, gt z 4, gt z 5, gt z 6] = rndw z (gt k2L t) x := by
        unfold rndw aw
        simp only [IntKind.wrap_u32]
        rw [E1.out, E2.out]
      have HR := Lib.hid hrow
      have hT2 := hT.drewN (na + nq)
      change Code.wp _ _ _ _ (wr.drewN (na + nq))
      generalize wr.drewN (na + nq) = w7 at hT2 ⊢
      clear hT c0 c1 c2 c3 c4 c5 c6 c7 ck hix hrow
      have c3 := hT2.as_.cell 3 (by rw [HZL.out]; omega)
      go_wp2_with (refine wpList_store_arr (m := [(T1 + T2) % 4294967296, gt z 0, gt z 1, gt z 2, (gt z 3 + T1) % 4294967296, gt z 4, gt z 5, gt z 6]) (o := ⟨none, _, _, _, _, _⟩) rfl 96 _ _ rfl rfl rfl hT2.as_ 8 inf_w8 rfl HZL.out ?_)
      go_roundg (64 - (t + 1))
      case measure => have := HGK.out; omega
      case rel =>
        refine ⟨t + 1, by go_num, by omega, rfl, ?_⟩
        have h2 : ∀ {r r2 : List Int} {w9 : World}, Hid (r = r2) → Hid (r2 = rndsw b s (t + 1)) → Uw w B s b r w9 → Uw w B s b (rndsw b s (t + 1)) w9 := fun e e' x => e'.out ▸ e.out ▸ x
        exact h2 HR hnext (hT2.rowS _)
    · have hltI : ¬ (t : Int) < 64 := by omega
      obtain ⟨z, hz_⟩ : ∃ z, rndsw b s t = z := ⟨_, rfl⟩
      rw [hz_] at hT
      have hzl : z.length = 8 := by rw [← hz_, rndsw_len b hs]
      have HFZ : Hid (addw s z 8 = F) := by show addw s z 8 = F; rw [← HF.out, turn2, ← hz_, show t = 64 by omega]
      have HZL := Lib.hid hzl
      clear hz_ hzl HGK
      go_wp2_with fail
      go_loopg [97] 8 (fun gk x wr => Au w B s b z gk x wr)
      case atStart => exact ⟨0, rfl, Nat.zero_le _, rfl, hT⟩
      case round =>
        clear hT
        obtain ⟨i, rfl, hi, hgk, hT⟩ := hrel
        have HGK := Lib.hid hgk
        clear hgk
        by_cases hlt : i < 8
        · have hltI : (i : Int) < 8 := by omega
          have c1 := hT.as_.cell i (by rw [addw_len]; have := HZL.out; omega)
          have c2 := hT.a0.cell i (by omega)
          have f1 := hT.as_.free i
          go_wp2_with fail
          go_still_tail 8, (by kernel_rfl)
          repeat still_step
          change wpList _ _ _ _ _ wr.drew
          go_wp2_with fail
          go_roundg (8 - (i + 1))
          case measure => have := HGK.out; omega
          case rel => exact ⟨i + 1, by go_num, by omega, rfl, (hT.drewN 1).setS i (aw (gt (addw s z i) i) (gt s i))⟩
        · have hltI : ¬ (i : Int) < 8 := by omega
          have h8 : i = 8 := by omega
          rw [h8, HFZ.out] at hT
          have hln : F.length = 8 := by rw [← HFZ.out, addw_len]; exact HZL.out
          clear h8
          go_wp2_with (first | (refine wpList_load_arr (o := ⟨some 109, _, _, _, _, _⟩) rfl 96 _ rfl rfl hT.as_ Tryd.underlying96 rfl 8 inf_w8 hln ?_) | (refine wpList_store_arr (o := ⟨none, _, _, _, _, _⟩) rfl 96 _ _ rfl rfl rfl hT.a1 8 inf_w8 hln rfl ?_))
          refine bodyPost_arr 4 96 8 Tryd.underlying96 rfl inf_w8 rfl rfl rfl (hT.a1.setRow F) hln ⟨rfl, ?_⟩
          exact (hT.k.setRow (B + 2) _ (.inl (by omega))).below
end Go.Proofs.YtfaonieaagepjaaDoor
